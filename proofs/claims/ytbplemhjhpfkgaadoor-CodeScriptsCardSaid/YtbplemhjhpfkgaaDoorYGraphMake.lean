/-
 (broadsidekeep.Graph).Graph: a graph of one to seven brokers.
-/
import Derived.Test.YtbplemhjhpfkgaaDoorYPart18
import Derived.Test.YtbplemhjhpfkgaaDoorYPart16
set_option linter.unusedVariables false
set_option linter.unusedSimpArgs false
namespace Go.Proofs.YtbplemhjhpfkgaaDoor.Gr
open Go.RowKit Go.ChangeShapes YtbplemhjhpfkgaaDoorW.PrintWords YtbplemhjhpfkgaaDoorW.PrintLast YtbplemhjhpfkgaaDoorW.PrintMore Rd
open Go.Proofs.YtbplemhjhpfkgaaDoor.Cd (InI64 flat)
open PCodeKinds
open Go.Proofs.YtbplemhjhpfkgaaDoor.Wr (pick_some)
def gm11Reg.T11 : Bool × List (List Nat × List Nat) := (true, [([], []), ([], []), ([1], [1]), ([], []), ([2, 3], [2, 3]), ([4], [4]), ([], []), ([6], [6]), ([7], [7]), ([5, 8], [5, 8]), ([], []), ([10], [10]), ([], []), ([11, 12], [11, 12]), ([13], [13]), ([14], [14]), ([], []), ([16], [16]), ([17], [17]), ([15, 18, 9], [15, 18]), ([0, 9, 19, 19], [0, 9, 19])])
def gm11Reg.B11 : List Nat := [0, 0, 2, 0, 14, 30, 0, 64, 192, 510, 0, 1024, 0, 7168, 15360, 31744, 0, 65536, 196608, 524286, 1048575]
theorem gm11Reg.tab11 : rtab .any (opsOf Tryd.f34 11) = gm11Reg.T11 := by kernel_rfl
theorem gm11Reg.bits11 : waitsOk gm11Reg.T11.2 gm11Reg.B11 = true := by kernel_rfl
theorem GW.more {w0 W : World} {gg gm mb n m : Nat} {B : Int} {AL : Option Addr} {cL : Nat} {ls : List (Int × Int)} (h : GW w0 W gg gm mb n B AL cL ls) (hn : n ≤ m) : GW w0 W gg gm mb m B AL cL ls :=
 ⟨h.below, h.g, h.m, h.own.mono hn, h.row, h.ng, h.nm, h.nb, h.d1, h.d2, h.d3, Nat.le_trans h.few hn⟩
theorem GW.start (w0 : World) (B : Int) : GW w0 (((w0.alloc (.cells #[.int .i64 B, .slice none 0 0] 80)).alloc (.map #[] 0)).alloc (.cells #[.map (some (w0.heap.size + 1))] 127)) w0.heap.size (w0.heap.size + 2) (w0.heap.size + 1) 0 B none 0 [] := by
 have h1 : (w0.alloc (.cells #[.int .i64 B, .slice none 0 0] 80)).heap.size = w0.heap.size + 1 := by simp
 have h2 : ((w0.alloc (.cells #[.int .i64 B, .slice none 0 0] 80)).alloc (.map #[] 0)).heap.size = w0.heap.size + 2 := by simp
 refine ⟨below_alloc (below_alloc (below_alloc (Below.refl _ _) _) _) _, blk_alloc (blk_alloc (blk_new w0 _) _) _, ?_, ?_, Kd.R_nil _ _ _ _ _, by omega, by omega, by omega, by omega, by omega, by omega, Nat.le_refl _⟩
 ·rw [← h2]; exact blk_new _ _
 ·have h := OwnM.made (w0.alloc (.cells #[.int .i64 B, .slice none 0 0] 80)); rw [h1] at h; exact h.alloc _
set_option maxRecDepth 100000 in
set_option maxHeartbeats 16000000 in
theorem graph_calls (kb : Int) (UA : Option Addr) (cu : Nat) (U : List Int) (MA : Option Addr) (cm : Nat) (M : List Int) (w : World) (hU : Kd.C (Kd.int .i64) w UA U.length U) (kU : U.length ≤ cu) (hM : Kd.C (Kd.int .i64) w MA M.length M) :
  Calls Tryd.prog 34 #[.agg #[.int .i64 kb, .slice UA U.length cu, .slice MA M.length cm]] w fun e w' => ∃ (B : Int) (AL : Option Addr) (nL cL : Nat), 1 ≤ B ∧ B ≤ 7 ∧ e = .returned (.agg #[.int .i64 B, .slice AL nL cL]) ∧ Below w.heap.size w w' := by
 have HU := sd hU; have HM := sd hM; have hMM : M.length ≤ 9223372036854775807 := hM.2.1; clear hU hM; have hmm := @run_makeMap Tryd.prog; have hmf : ∀ (fn : Fn) (first cap : Array Value) (w : World), (Instr.makeFunc fn first cap).run Tryd.prog w = .ok (.func fn first cap) w := fun _ _ _ _ => rfl
 have hbd := within_bd kb 1 7 (by omega); obtain ⟨B, hBe⟩ : ∃ B, within kb 1 7 = B := ⟨_, rfl⟩; rw [hBe] at hbd; have HBE := Lib.hid hBe; clear hBe
 go_enter Tryd.func34, Tryd.ntmps34
 go_upto_region 5 with (go_at_call 24; refine (within_calls kb 1 7 _ (by omega) (by omega) (by omega)).mono ?_; rintro e w1 ⟨he, rfl⟩; rw [HBE.out] at he; subst he)
 clear hmm hmf HBE; obtain ⟨w0, hw0⟩ : ∃ w0, (w.alloc (.cells #[.int .i64 kb, .slice UA U.length cu, .slice MA M.length cm] 76)).alloc (.cells #[.int .i64 0, .slice none 0 0] 80) = w0 := ⟨_, rfl⟩; have hz0 : w0.heap.size = w.heap.size + 1 + 1 := by rw [← hw0]; simp
 have hA0 : w0.heap[w.heap.size]? = some (.cells #[.int .i64 kb, .slice UA U.length cu, .slice MA M.length cm] 76 (0, 0)) := by rw [← hw0]; exact blk_alloc (blk_new w _) _
 have hR0 : w0.heap[w.heap.size + 1]? = some (.cells #[.int .i64 0, .slice none 0 0] 80 (0, 0)) := by
  rw [← hw0, show w.heap.size + 1 = (w.alloc (.cells #[.int .i64 kb, .slice UA U.length cu, .slice MA M.length cm] 76)).heap.size by simp]; exact blk_new _ _
 have HB0 := sd (show Below w.heap.size w w0 by rw [← hw0]; exact below_alloc (below_alloc (Below.refl _ _) _) _)
 have hst : GW w0 (((w0.alloc (.cells #[.int .i64 B, .slice none 0 0] 80)).alloc (.map #[] 0)).alloc (.cells #[.map (some (w.heap.size + 1 + 1 + 1))] 127)) (w.heap.size + 1 + 1) (w.heap.size + 1 + 1 + 1 + 1) (w.heap.size + 1 + 1 + 1) 0 B none 0 [] := by
  have h := GW.start w0 B; rw [hz0] at h; exact h
 rw [hw0]; have HA0 := sd hA0; have HR0 := sd hR0; have HG := sd hst; clear hA0 hR0 hst hw0; generalize (((w0.alloc (.cells #[.int .i64 B, .slice none 0 0] 80)).alloc (.map #[] 0)).alloc (.cells #[.map (some (w.heap.size + 1 + 1 + 1))] 127)) = wd at *; have HGR := Lib.hid (Nat.le_succ w.heap.size); generalize w.heap.size + 1 + 1 + 1 + 1 = gm at *; generalize w.heap.size + 1 + 1 + 1 = mb at *; generalize w.heap.size + 1 + 1 = gg at *; replace HGR : Hid (w.heap.size ≤ w.heap.size + 1) := HGR; generalize w.heap.size + 1 = gr at *; clear hz0
 go_loopw [6] (fun iv wr => ∃ (k : Nat) (AL : Option Addr) (cL : Nat) (ls : List (Int × Int)), 1 ≤ k ∧ (k : Int) ≤ B ∧ iv = .int .i64 k ∧ Aside0 (GW w0 wr gg gm mb k B AL cL ls)) (fun iv _ => 8 - (intOf iv).toNat)
 case atStart => exact ⟨1, none, 0, [], Nat.le_refl _, by omega, rfl, ⟨HG.out.more (Nat.zero_le _)⟩⟩
 case round =>
  clear HG; obtain ⟨k, AL, cL, ls, hk1, hkB, rfl, HG⟩ := hrel
  by_cases hlt : (k : Int) < B
  ·have hd0 : decide ((k : Int) < B) = true := decide_eq_true hlt; have q0 := (blk_cell HG.out.g 0).trans (rfl : _ = some (Value.int .i64 B)); have q1 := (cells_at HG.out.below (blk_cell HA0.out 1)).trans (rfl : _ = some (Value.slice UA U.length cu)); obtain ⟨p, hp⟩ := pick_some U k (by omega); have HP := Lib.hid hp; have hbd2 := within_bd p 0 ((k : Int) - 1) (by omega); obtain ⟨r, hr⟩ : ∃ r, within p 0 ((k : Int) - 1) = r := ⟨_, rfl⟩; rw [hr] at hbd2; have HRE := Lib.hid hr; have HI1 := Lib.hid (show InI64 (k : Int) from ⟨by omega, by omega⟩); have HI2 := Lib.hid (show InI64 r from ⟨by omega, by omega⟩); have HCU := sd (Kd.C_below (Kd.C_below HU.out HB0.out) HG.out.below); clear hp hr
   go_wp2_with (first
    | (replace HX2 := HX2; go_at_call 68; refine (put_calls k r B w0 _ gg gm mb k AL cL ls HI1.out HI2.out HX2.out (by omega)).mono ?_; rintro e w3 ⟨rfl, AL', cL', ls', h⟩; have HG3 := sd h; clear h)
    | (replace HX1 := HX1; go_at_call 24; refine (within_calls p 0 ((k : Int) - 1) _ (by omega) (by omega) (by omega)).mono ?_; rintro e w2 ⟨he, rfl⟩; rw [HRE.out] at he; subst he; have HX2 := HX1)
    | (go_at_call 49; refine (broadsidekeep_pick.calls UA cu U k p _ HCU.out kU HP.out).mono ?_; rintro e w1 ⟨rfl, nd, rfl⟩; have HX1 := sd (HG.out.move (pw_below_drewN (Below.refl _ _) nd))))
   go_roundw
   case rel => exact ⟨k + 1, AL', cL', ls', by omega, by omega, by go_num, HG3⟩
   case measure => simp [intOf]; omega
  ·have hd0 : decide ((k : Int) < B) = false := decide_eq_false hlt; have q0 := (blk_cell HG.out.g 0).trans (rfl : _ = some (Value.int .i64 B)); replace HG := sd (HG.out.more (show k ≤ 7 + 0 by omega))
   go_upto_region 9 with fail
   clear q0 hd0 hlt hk1 hkB
   go_loopw [7] (fun iv wr => ∃ (k : Nat) (AL : Option Addr) (cL : Nat) (ls : List (Int × Int)), k ≤ 8 ∧ k ≤ M.length ∧ iv = .int .i64 k ∧ Aside0 (GW w0 wr gg gm mb (7 + k) B AL cL ls)) (fun iv _ => 9 - (intOf iv).toNat)
   case atStart => exact ⟨0, AL, cL, ls, Nat.zero_le _, Nat.zero_le _, rfl, HG⟩
   case round =>
    clear HG; obtain ⟨k, AL, cL, ls, hk8, hkM, rfl, HG⟩ := hrel; have q0 := (cells_at HG.out.below (blk_cell HA0.out 2)).trans (rfl : _ = some (Value.slice MA M.length cm))
    by_cases hlt : k < M.length
    ·have hd0 : decide ((k : Int) < (M.length : Int)) = true := decide_eq_true (by omega)
     by_cases hl8 : k < 8
     ·have hd1 : decide ((k : Int) < 8) = true := decide_eq_true (by omega)
      go_upto_region 11 with fail
      obtain ⟨adM, rfl, hx⟩ := Kd.at_int (Kd.C_below (Kd.C_below HM.out HB0.out) HG.out.below) (k : Int) (by omega) (by omega); rw [Int.toNat_natCast] at hx; obtain ⟨x, hxe⟩ : ∃ x, rd M (k : Int) = x := ⟨_, rfl⟩; rw [hxe] at hx; have HX := sd hx; have hbd1 := within_bd x 0 (B - 1) (by omega); obtain ⟨r1, hr1⟩ : ∃ r, within x 0 (B - 1) = r := ⟨_, rfl⟩; rw [hr1] at hbd1; have hbd2 := within_bd (wrap64 (Int.tdiv x 8)) 0 (B - 1) (by omega); obtain ⟨r2, hr2⟩ : ∃ r, within (wrap64 (Int.tdiv x 8)) 0 (B - 1) = r := ⟨_, rfl⟩; rw [hr2] at hbd2; have HR1 := Lib.hid hr1; have HR2 := Lib.hid hr2; have HI1 := Lib.hid (show InI64 r1 from ⟨by omega, by omega⟩); have HI2 := Lib.hid (show InI64 r2 from ⟨by omega, by omega⟩); have HW1 := Lib.hid (show IntKind.i64.wrap (B - 1) = B - 1 from by rw [i64_w]; unfold wrap64; omega); have HW2 := Lib.hid (show wrap64 (B - 1) = B - 1 by unfold wrap64; omega); have HKM := Lib.hid hlt; clear hr1 hr2 hxe hx q0 hd0 hd1 hlt; have HW := sd (Below.refl wr.heap.size wr); refine start_ (n := 21) (S := fun w' => True) (ds := []) #[false, false, false, false, false, false, false, false, false, false, false, false, false, false, false, false, false, false, false, false, false] (by kernel_rfl) rfl rfl trivial (fun hHeld => ?_); refine with_tabW gm11Reg.tab11 gm11Reg.bits11 (fun HT_ HW_ => ?_); refine inv_at [0, 1, 2, 3, 4, 5, 6, 7, 8, 9, 10, 11, 12, 13, 14, 15, 16, 17, 18, 19, 20] (fun a0_ b a w' => a = putSel a0_ b [(0, 41, .func (Fn.func 68) #[] #[.pointer (some ⟨gm, 0, none⟩), .pointer (some ⟨gg, 0, none⟩)]), (1, 42, .pointer (some ⟨w.heap.size, 2, none⟩)), (2, 43, .slice (some adM) M.length cm), (3, 44, .int .i64 (k : Int)), (4, 45, .pointer (some (adM.add k))), (5, 46, .int .i64 x), (6, 47, .pointer (some ⟨gg, 0, none⟩)), (7, 48, .int .i64 B), (8, 49, .int .i64 (B - 1)), (9, 50, .int .i64 r1), (10, 51, .pointer (some ⟨w.heap.size, 2, none⟩)), (11, 52, .slice (some adM) M.length cm), (12, 53, .int .i64 (k : Int)), (13, 54, .pointer (some (adM.add k))), (14, 55, .int .i64 x), (15, 56, .int .i64 (wrap64 (Int.tdiv x 8))), (16, 57, .pointer (some ⟨gg, 0, none⟩)), (17, 58, .int .i64 B), (18, 59, .int .i64 (B - 1)), (19, 60, .int .i64 r2), (20, 61, .tuple #[])] ∧ (b 20 = false → Below wr.heap.size wr w') ∧ (b 20 = true → ∃ AL' cL' ls', GW w0 w' gg gm mb (7 + k + 1) B AL' cL' ls')) HT_.out HW_.out (by kernel_rfl) (by kernel_rfl) ?_ ?_ ?_
      ·exact ⟨by simp only [putSel, Bool.false_eq_true, if_false], fun _ => below_drew HW.out, fun h_ => absurd h_ (by decide)⟩
      ·skip
       clear HW; refine steps_cons ?_ ?_
       ·rintro b a w' ⟨ha, QHW, QHZ⟩ hb_ hon hoff; refine ⟨_, rfl, fun K hK => ?_⟩; have e5 := ef ha 5 (.func (Fn.func 68) #[] #[.pointer (some ⟨gm, 0, none⟩), .pointer (some ⟨gg, 0, none⟩)]); replace ha := sd ha; have HW := sd (QHW (aC hoff 20)); refine value_ (w1 := w') (v := .func (Fn.func 68) #[] #[.pointer (some ⟨gm, 0, none⟩), .pointer (some ⟨gg, 0, none⟩)]) (by rfl) rfl ?_ ?_
        ·go_simp; (try simp only [i64_w]); try rfl
        refine hK.out _ _ ⟨uk ha.out 0 hb_ rfl rfl rfl, QHW, fun h0_ => aF hoff 20 h0_⟩
       refine steps_cons ?_ ?_
       ·rintro b a w' ⟨ha, QHW, QHZ⟩ hb_ hon hoff; refine ⟨_, rfl, fun K hK => ?_⟩; have e1 := ef ha 1 (.pointer (some ⟨w.heap.size, 0, none⟩)); replace ha := sd ha; have HW := sd (QHW (aC hoff 20)); refine value_ (w1 := w') (v := .pointer (some ⟨w.heap.size, 2, none⟩)) (by rfl) rfl ?_ ?_
        ·go_simp; (try simp only [i64_w]); try rfl
        refine hK.out _ _ ⟨uk ha.out 1 hb_ rfl rfl rfl, QHW, fun h0_ => aF hoff 20 h0_⟩
       refine steps_cons ?_ ?_
       ·rintro b a w' ⟨ha, QHW, QHZ⟩ hb_ hon hoff; refine ⟨_, rfl, fun K hK => ?_⟩; have e42 := ek ha 1 1 42 (.pointer (some ⟨w.heap.size, 2, none⟩)) hon; replace ha := sd ha; have HW := sd (QHW (aC hoff 20)); have q0 := (cells_at HW.out (cells_at HG.out.below (blk_cell HA0.out 2))).trans (rfl : _ = some (Value.slice (some adM) M.length cm)); refine value_ (w1 := w') (v := .slice (some adM) M.length cm) (by rfl) rfl ?_ ?_
        ·go_simp; (try simp only [i64_w]); try rfl
        refine hK.out _ _ ⟨uk ha.out 2 hb_ rfl rfl rfl, QHW, fun h0_ => aF hoff 20 h0_⟩
       refine steps_cons ?_ ?_
       ·rintro b a w' ⟨ha, QHW, QHZ⟩ hb_ hon hoff; refine ⟨_, rfl, fun K hK => ?_⟩; have e7 := ef ha 7 (.int .i64 (k : Int)); replace ha := sd ha; have HW := sd (QHW (aC hoff 20)); refine value_ (w1 := w') (v := .int .i64 (k : Int)) (by rfl) rfl ?_ ?_
        ·go_simp; (try simp only [i64_w]); try rfl
        refine hK.out _ _ ⟨uk ha.out 3 hb_ rfl rfl rfl, QHW, fun h0_ => aF hoff 20 h0_⟩
       refine steps_cons ?_ ?_
       ·rintro b a w' ⟨ha, QHW, QHZ⟩ hb_ hon hoff; refine ⟨_, rfl, fun K hK => ?_⟩; have e43 := ek ha 2 2 43 (.slice (some adM) M.length cm) hon; have e44 := ek ha 3 3 44 (.int .i64 (k : Int)) hon; replace ha := sd ha; have HW := sd (QHW (aC hoff 20)); have hkM := HKM.out; refine value_ (w1 := w') (v := .pointer (some (adM.add k))) (by rfl) rfl ?_ ?_
        ·go_simp; (try simp only [i64_w]); try rfl
        refine hK.out _ _ ⟨uk ha.out 4 hb_ rfl rfl rfl, QHW, fun h0_ => aF hoff 20 h0_⟩
       refine steps_cons ?_ ?_
       ·rintro b a w' ⟨ha, QHW, QHZ⟩ hb_ hon hoff; refine ⟨_, rfl, fun K hK => ?_⟩; have e45 := ek ha 4 4 45 (.pointer (some (adM.add k))) hon; replace ha := sd ha; have HW := sd (QHW (aC hoff 20)); have q0 := cells_at HW.out HX.out; refine value_ (w1 := w') (v := .int .i64 x) (by rfl) rfl ?_ ?_
        ·go_simp; (try simp only [i64_w]); try rfl
        refine hK.out _ _ ⟨uk ha.out 5 hb_ rfl rfl rfl, QHW, fun h0_ => aF hoff 20 h0_⟩
       refine steps_cons ?_ ?_
       ·rintro b a w' ⟨ha, QHW, QHZ⟩ hb_ hon hoff; refine ⟨_, rfl, fun K hK => ?_⟩; have e3 := ef ha 3 (.pointer (some ⟨gg, 0, none⟩)); replace ha := sd ha; have HW := sd (QHW (aC hoff 20)); refine value_ (w1 := w') (v := .pointer (some ⟨gg, 0, none⟩)) (by rfl) rfl ?_ ?_
        ·go_simp; (try simp only [i64_w]); try rfl
        refine hK.out _ _ ⟨uk ha.out 6 hb_ rfl rfl rfl, QHW, fun h0_ => aF hoff 20 h0_⟩
       refine steps_cons ?_ ?_
       ·rintro b a w' ⟨ha, QHW, QHZ⟩ hb_ hon hoff; refine ⟨_, rfl, fun K hK => ?_⟩; have e47 := ek ha 6 6 47 (.pointer (some ⟨gg, 0, none⟩)) hon; replace ha := sd ha; have HW := sd (QHW (aC hoff 20)); have q0 := (cells_at HW.out (blk_cell HG.out.g 0)).trans (rfl : _ = some (Value.int .i64 B)); refine value_ (w1 := w') (v := .int .i64 B) (by rfl) rfl ?_ ?_
        ·go_simp; (try simp only [i64_w]); try rfl
        refine hK.out _ _ ⟨uk ha.out 7 hb_ rfl rfl rfl, QHW, fun h0_ => aF hoff 20 h0_⟩
       refine steps_cons ?_ ?_
       ·rintro b a w' ⟨ha, QHW, QHZ⟩ hb_ hon hoff; refine ⟨_, rfl, fun K hK => ?_⟩; have e48 := ek ha 7 7 48 (.int .i64 B) hon; replace ha := sd ha; have HW := sd (QHW (aC hoff 20)); have hw1 := HW1.out; have hw2 := HW2.out; refine value_ (w1 := w') (v := .int .i64 (B - 1)) (by rfl) rfl ?_ ?_
        ·go_simp; (try simp only [i64_w]); try rfl
        refine hK.out _ _ ⟨uk ha.out 8 hb_ rfl rfl rfl, QHW, fun h0_ => aF hoff 20 h0_⟩
       refine steps_cons ?_ ?_
       ·rintro b a w' ⟨ha, QHW, QHZ⟩ hb_ hon hoff; refine ⟨_, rfl, fun K hK => ?_⟩; have e46 := ek ha 5 5 46 (.int .i64 x) hon; have e49 := ek ha 8 8 49 (.int .i64 (B - 1)) hon; replace ha := sd ha; have HW := sd (QHW (aC hoff 20)); refine goes_ Tryd.func24 (by kernel_rfl) rfl #[.int .i64 x, .int .i64 0, .int .i64 (B - 1)] (by rfl) rfl rfl (by simp only [List.map_toArray, List.map_cons, List.map_nil, Act.eval, Array.getD_eq_getD_getElem?, Option.getD_some, e46, e49]) ?_; refine (within_calls x 0 (B - 1) w' (by omega) (by omega) (by omega)).mono ?_; rintro e w2 ⟨he, rfl⟩; rw [HR1.out] at he; subst he; refine ⟨_, rfl, ?_⟩; refine hK.out _ _ ⟨uk ha.out 9 hb_ rfl rfl rfl, fun _ => HW.out, fun h0_ => aF hoff 20 h0_⟩
       refine steps_cons ?_ ?_
       ·rintro b a w' ⟨ha, QHW, QHZ⟩ hb_ hon hoff; refine ⟨_, rfl, fun K hK => ?_⟩; have e1 := ef ha 1 (.pointer (some ⟨w.heap.size, 0, none⟩)); replace ha := sd ha; have HW := sd (QHW (aC hoff 20)); refine value_ (w1 := w') (v := .pointer (some ⟨w.heap.size, 2, none⟩)) (by rfl) rfl ?_ ?_
        ·go_simp; (try simp only [i64_w]); try rfl
        refine hK.out _ _ ⟨uk ha.out 10 hb_ rfl rfl rfl, QHW, fun h0_ => aF hoff 20 h0_⟩
       refine steps_cons ?_ ?_
       ·rintro b a w' ⟨ha, QHW, QHZ⟩ hb_ hon hoff; refine ⟨_, rfl, fun K hK => ?_⟩; have e51 := ek ha 10 10 51 (.pointer (some ⟨w.heap.size, 2, none⟩)) hon; replace ha := sd ha; have HW := sd (QHW (aC hoff 20)); have q0 := (cells_at HW.out (cells_at HG.out.below (blk_cell HA0.out 2))).trans (rfl : _ = some (Value.slice (some adM) M.length cm)); refine value_ (w1 := w') (v := .slice (some adM) M.length cm) (by rfl) rfl ?_ ?_
        ·go_simp; (try simp only [i64_w]); try rfl
        refine hK.out _ _ ⟨uk ha.out 11 hb_ rfl rfl rfl, QHW, fun h0_ => aF hoff 20 h0_⟩
       refine steps_cons ?_ ?_
       ·rintro b a w' ⟨ha, QHW, QHZ⟩ hb_ hon hoff; refine ⟨_, rfl, fun K hK => ?_⟩; have e7 := ef ha 7 (.int .i64 (k : Int)); replace ha := sd ha; have HW := sd (QHW (aC hoff 20)); refine value_ (w1 := w') (v := .int .i64 (k : Int)) (by rfl) rfl ?_ ?_
        ·go_simp; (try simp only [i64_w]); try rfl
        refine hK.out _ _ ⟨uk ha.out 12 hb_ rfl rfl rfl, QHW, fun h0_ => aF hoff 20 h0_⟩
       refine steps_cons ?_ ?_
       ·rintro b a w' ⟨ha, QHW, QHZ⟩ hb_ hon hoff; refine ⟨_, rfl, fun K hK => ?_⟩; have e52 := ek ha 11 11 52 (.slice (some adM) M.length cm) hon; have e53 := ek ha 12 12 53 (.int .i64 (k : Int)) hon; replace ha := sd ha; have HW := sd (QHW (aC hoff 20)); have hkM := HKM.out; refine value_ (w1 := w') (v := .pointer (some (adM.add k))) (by rfl) rfl ?_ ?_
        ·go_simp; (try simp only [i64_w]); try rfl
        refine hK.out _ _ ⟨uk ha.out 13 hb_ rfl rfl rfl, QHW, fun h0_ => aF hoff 20 h0_⟩
       refine steps_cons ?_ ?_
       ·rintro b a w' ⟨ha, QHW, QHZ⟩ hb_ hon hoff; refine ⟨_, rfl, fun K hK => ?_⟩; have e54 := ek ha 13 13 54 (.pointer (some (adM.add k))) hon; replace ha := sd ha; have HW := sd (QHW (aC hoff 20)); have q0 := cells_at HW.out HX.out; refine value_ (w1 := w') (v := .int .i64 x) (by rfl) rfl ?_ ?_
        ·go_simp; (try simp only [i64_w]); try rfl
        refine hK.out _ _ ⟨uk ha.out 14 hb_ rfl rfl rfl, QHW, fun h0_ => aF hoff 20 h0_⟩
       refine steps_cons ?_ ?_
       ·rintro b a w' ⟨ha, QHW, QHZ⟩ hb_ hon hoff; refine ⟨_, rfl, fun K hK => ?_⟩; have e55 := ek ha 14 14 55 (.int .i64 x) hon; replace ha := sd ha; have HW := sd (QHW (aC hoff 20)); refine value_ (w1 := w') (v := .int .i64 (wrap64 (Int.tdiv x 8))) (by rfl) rfl ?_ ?_
        ·go_simp; (try simp only [i64_w]); try rfl
        refine hK.out _ _ ⟨uk ha.out 15 hb_ rfl rfl rfl, QHW, fun h0_ => aF hoff 20 h0_⟩
       refine steps_cons ?_ ?_
       ·rintro b a w' ⟨ha, QHW, QHZ⟩ hb_ hon hoff; refine ⟨_, rfl, fun K hK => ?_⟩; have e3 := ef ha 3 (.pointer (some ⟨gg, 0, none⟩)); replace ha := sd ha; have HW := sd (QHW (aC hoff 20)); refine value_ (w1 := w') (v := .pointer (some ⟨gg, 0, none⟩)) (by rfl) rfl ?_ ?_
        ·go_simp; (try simp only [i64_w]); try rfl
        refine hK.out _ _ ⟨uk ha.out 16 hb_ rfl rfl rfl, QHW, fun h0_ => aF hoff 20 h0_⟩
       refine steps_cons ?_ ?_
       ·rintro b a w' ⟨ha, QHW, QHZ⟩ hb_ hon hoff; refine ⟨_, rfl, fun K hK => ?_⟩; have e57 := ek ha 16 16 57 (.pointer (some ⟨gg, 0, none⟩)) hon; replace ha := sd ha; have HW := sd (QHW (aC hoff 20)); have q0 := (cells_at HW.out (blk_cell HG.out.g 0)).trans (rfl : _ = some (Value.int .i64 B)); refine value_ (w1 := w') (v := .int .i64 B) (by rfl) rfl ?_ ?_
        ·go_simp; (try simp only [i64_w]); try rfl
        refine hK.out _ _ ⟨uk ha.out 17 hb_ rfl rfl rfl, QHW, fun h0_ => aF hoff 20 h0_⟩
       refine steps_cons ?_ ?_
       ·rintro b a w' ⟨ha, QHW, QHZ⟩ hb_ hon hoff; refine ⟨_, rfl, fun K hK => ?_⟩; have e58 := ek ha 17 17 58 (.int .i64 B) hon; replace ha := sd ha; have HW := sd (QHW (aC hoff 20)); have hw1 := HW1.out; have hw2 := HW2.out; refine value_ (w1 := w') (v := .int .i64 (B - 1)) (by rfl) rfl ?_ ?_
        ·go_simp; (try simp only [i64_w]); try rfl
        refine hK.out _ _ ⟨uk ha.out 18 hb_ rfl rfl rfl, QHW, fun h0_ => aF hoff 20 h0_⟩
       refine steps_cons ?_ ?_
       ·rintro b a w' ⟨ha, QHW, QHZ⟩ hb_ hon hoff; refine ⟨_, rfl, fun K hK => ?_⟩; have e56 := ek ha 15 15 56 (.int .i64 (wrap64 (Int.tdiv x 8))) hon; have e59 := ek ha 18 18 59 (.int .i64 (B - 1)) hon; replace ha := sd ha; have HW := sd (QHW (aC hoff 20)); refine goes_ Tryd.func24 (by kernel_rfl) rfl #[.int .i64 (wrap64 (Int.tdiv x 8)), .int .i64 0, .int .i64 (B - 1)] (by rfl) rfl rfl (by simp only [List.map_toArray, List.map_cons, List.map_nil, Act.eval, Array.getD_eq_getD_getElem?, Option.getD_some, e56, e59]) ?_; refine (within_calls (wrap64 (Int.tdiv x 8)) 0 (B - 1) w' (by omega) (by omega) (by omega)).mono ?_; rintro e w2 ⟨he, rfl⟩; rw [HR2.out] at he; subst he; refine ⟨_, rfl, ?_⟩; refine hK.out _ _ ⟨uk ha.out 19 hb_ rfl rfl rfl, fun _ => HW.out, fun h0_ => aF hoff 20 h0_⟩
       refine steps_cons ?_ ?_
       ·rintro b a w' ⟨ha, QHW, QHZ⟩ hb_ hon hoff; refine ⟨_, rfl, fun K hK => ?_⟩; have e41 := ek ha 0 0 41 (.func (Fn.func 68) #[] #[.pointer (some ⟨gm, 0, none⟩), .pointer (some ⟨gg, 0, none⟩)]) hon; have e50 := ek ha 9 9 50 (.int .i64 r1) hon; have e60 := ek ha 19 19 60 (.int .i64 r2) hon; replace ha := sd ha; have HW := sd (QHW hb_); refine goesV_ Tryd.func68 (by kernel_rfl) rfl #[.int .i64 r1, .int .i64 r2, .pointer (some ⟨gm, 0, none⟩), .pointer (some ⟨gg, 0, none⟩)] (by rfl) rfl rfl (cap := #[.pointer (some ⟨gm, 0, none⟩), .pointer (some ⟨gg, 0, none⟩)]) (by simp only [Act.eval, Array.getD_eq_getD_getElem?, Option.getD_some, e41]) (by simp only [List.map_toArray, List.map_cons, List.map_nil, Act.eval, Array.getD_eq_getD_getElem?, Option.getD_some, e50, e60]; rfl) ?_; refine (put_calls r1 r2 B w0 w' gg gm mb (7 + k) AL cL ls HI1.out HI2.out (HG.out.move HW.out) (by omega)).mono ?_; rintro e w2 ⟨he, hz⟩; subst he; refine ⟨_, rfl, ?_⟩; refine hK.out _ _ ⟨uk ha.out 20 hb_ rfl rfl rfl, fun h0_ => aU b 20 h0_, fun _ => hz⟩
       exact steps_nil
      ·rintro b a w' hall ⟨ha, QHW, QHZ⟩; clear HW; have hb0_ := hall 0 (by kernel_rfl); have hb1_ := hall 1 (by kernel_rfl); have hb2_ := hall 2 (by kernel_rfl); have hb3_ := hall 3 (by kernel_rfl); have hb4_ := hall 4 (by kernel_rfl); have hb5_ := hall 5 (by kernel_rfl); have hb6_ := hall 6 (by kernel_rfl); have hb7_ := hall 7 (by kernel_rfl); have hb8_ := hall 8 (by kernel_rfl); have hb9_ := hall 9 (by kernel_rfl); have hb10_ := hall 10 (by kernel_rfl); have hb11_ := hall 11 (by kernel_rfl); have hb12_ := hall 12 (by kernel_rfl); have hb13_ := hall 13 (by kernel_rfl); have hb14_ := hall 14 (by kernel_rfl); have hb15_ := hall 15 (by kernel_rfl); have hb16_ := hall 16 (by kernel_rfl); have hb17_ := hall 17 (by kernel_rfl); have hb18_ := hall 18 (by kernel_rfl); have hb19_ := hall 19 (by kernel_rfl); have hb20_ := hall 20 (by kernel_rfl); subst ha; simp only [putSel, hb0_, hb1_, hb2_, hb3_, hb4_, hb5_, hb6_, hb7_, hb8_, hb9_, hb10_, hb11_, hb12_, hb13_, hb14_, hb15_, hb16_, hb17_, hb18_, hb19_, hb20_, if_true, Act.put, List.setIfInBounds_toArray, List.set_cons_zero, List.set_cons_succ]; clear QHW; have HZ := sd (QHZ hb20_); clear QHZ; clear hall hb0_ hb1_ hb2_ hb3_ hb4_ hb5_ hb6_ hb7_ hb8_ hb9_ hb10_ hb11_ hb12_ hb13_ hb14_ hb15_ hb16_ hb17_ hb18_ hb19_ hb20_; obtain ⟨AL', cL', ls', hz⟩ := HZ; have HG3 := sd hz; go_wp2
       go_roundw
       case rel => exact ⟨k + 1, AL', cL', ls', by omega, by have := HKM.out; omega, by go_num, HG3⟩
       case measure => simp [intOf]; omega
     ·have hd1 : decide ((k : Int) < 8) = false := decide_eq_false (by omega); have z0 := (blk_cell HG.out.g 0).trans (rfl : _ = some (Value.int .i64 B)); have z1 := (blk_cell HG.out.g 1).trans (rfl : _ = some (Value.slice AL ls.length cL)); have hr := blk_below HR0.out HG.out.below; have y0 := (blk_cell hr 0).trans (rfl : _ = some (Value.int .i64 0)); have y1 := (blk_cell hr 1).trans (rfl : _ = some (Value.slice none 0 0)); have f0 := blk_frozen hr 0; have f1 := blk_frozen hr 1; have hlr := blk_lt hr; have HE := sd (blk_put (blk_put hr 0 (.int .i64 B) rfl) 1 (.slice AL ls.length cL) rfl); have HBE := sd (below_set (j := 1) (v := .slice AL ls.length cL) (below_set (j := 0) (v := .int .i64 B) (below_step HB0.out HG.out.below) HGR.out) HGR.out); go_wp2; generalize ((wr.setCell ⟨gr, 0, none⟩ (.int .i64 B)).setCell ⟨gr, 1, none⟩ (.slice AL ls.length cL)) = we at *; clear z0 z1 y0 y1 f0 f1 hr hlr; have y0 := (blk_cell HE.out 0).trans (rfl : _ = some (Value.int .i64 B)); have y1 := (blk_cell HE.out 1).trans (rfl : _ = some (Value.slice AL ls.length cL)); refine bodyPost_ret (v := .agg #[.int .i64 B, .slice AL ls.length cL]) (by simp [results, Tryd.results34, go_sem, y0, y1]) rfl ⟨B, AL, ls.length, cL, by omega, by omega, rfl, HBE.out⟩
    ·have hd0 : decide ((k : Int) < (M.length : Int)) = false := decide_eq_false (by omega); have z0 := (blk_cell HG.out.g 0).trans (rfl : _ = some (Value.int .i64 B)); have z1 := (blk_cell HG.out.g 1).trans (rfl : _ = some (Value.slice AL ls.length cL)); have hr := blk_below HR0.out HG.out.below; have y0 := (blk_cell hr 0).trans (rfl : _ = some (Value.int .i64 0)); have y1 := (blk_cell hr 1).trans (rfl : _ = some (Value.slice none 0 0)); have f0 := blk_frozen hr 0; have f1 := blk_frozen hr 1; have hlr := blk_lt hr; have HE := sd (blk_put (blk_put hr 0 (.int .i64 B) rfl) 1 (.slice AL ls.length cL) rfl); have HBE := sd (below_set (j := 1) (v := .slice AL ls.length cL) (below_set (j := 0) (v := .int .i64 B) (below_step HB0.out HG.out.below) HGR.out) HGR.out); go_wp2; generalize ((wr.setCell ⟨gr, 0, none⟩ (.int .i64 B)).setCell ⟨gr, 1, none⟩ (.slice AL ls.length cL)) = we at *; clear z0 z1 y0 y1 f0 f1 hr hlr; have y0 := (blk_cell HE.out 0).trans (rfl : _ = some (Value.int .i64 B)); have y1 := (blk_cell HE.out 1).trans (rfl : _ = some (Value.slice AL ls.length cL)); refine bodyPost_ret (v := .agg #[.int .i64 B, .slice AL ls.length cL]) (by simp [results, Tryd.results34, go_sem, y0, y1]) rfl ⟨B, AL, ls.length, cL, by omega, by omega, rfl, HBE.out⟩
end Go.Proofs.YtbplemhjhpfkgaaDoor.Gr

-- after the print's texts (print.sh)
import Derived.Test.YtbplemhjhpfkgaaDoorKx0
import Derived.Test.YtbplemhjhpfkgaaDoorKinds7
import Derived.Test.YtbplemhjhpfkgaaDoorKinds8
namespace Go.Proofs.YtbplemhjhpfkgaaDoor.PCodeKinds
open Go.RowKit Go.Proofs.YtbplemhjhpfkgaaDoorW.PrintWords Go.Proofs.YtbplemhjhpfkgaaDoorW.PrintLast Go.Proofs.YtbplemhjhpfkgaaDoorW.PrintMore
attribute [local go_sem] max2_int min2_int max_two min_two max_three min_three max_four min_four   -- for this text's walks alone
set_option linter.unusedVariables false
set_option linter.unusedSimpArgs false

/-! ### broadsidekeep_Message_Message: function 23 -/
mutual
def broadsidekeep_Message_Message.j0 : Nat → Int → Int → Int → Int → Int → List Int → List Int → List Int → List Int → Int → Int → Int → Int → Int → Option (Int × Int × Int × Int × Int × (List (S44)) × (List (S59)))
  | 0, _, _, _, _, _, _, _, _, _, _, _, _, _, _ => none
  | k + 1, x301000, x301001, x301002, x301003, x301004, x301005, x301006, x301007, x301008, x306000, x306001, x306002, x306003, x306004 => if x306000 = 1 then (broadsidekeep_Message_Message.j1 k true x301000 x301001 x301002 x301003 x301004 x301005 x301006 x301007 x301008 x306000 x306001 x306002 x306003 x306004) else (broadsidekeep_Message_Message.j1 k (x306000 == 3) x301000 x301001 x301002 x301003 x301004 x301005 x301006 x301007 x301008 x306000 x306001 x306002 x306003 x306004)
def broadsidekeep_Message_Message.j1 : Nat → Bool → Int → Int → Int → Int → Int → List Int → List Int → List Int → List Int → Int → Int → Int → Int → Int → Option (Int × Int × Int × Int × Int × (List (S44)) × (List (S59)))
  | 0, _, _, _, _, _, _, _, _, _, _, _, _, _, _, _ => none
  | k + 1, x33, x301000, x301001, x301002, x301003, x301004, x301005, x301006, x301007, x301008, x306000, x306001, x306002, x306003, x306004 => if x33 = true then ((broadsidekeep_Pred_Pred.f k x301005 x301006).bind fun t308 => (if x306000 = 5 then ((broadsidekeep_Tuple_Tuple.f k x301007 x301008).bind fun t311 => (some (x306000, x306001, x306002, x306003, x306004, t308, t311))) else (some (x306000, x306001, x306002, x306003, x306004, t308, ([] : List (S59)))))) else (if x306000 = 5 then ((broadsidekeep_Tuple_Tuple.f k x301007 x301008).bind fun t314 => (some (x306000, x306001, x306002, x306003, x306004, ([] : List (S44)), t314))) else (some (x306000, x306001, x306002, x306003, x306004, ([] : List (S44)), ([] : List (S59)))))
end
def broadsidekeep_Message_Message.f (k : Nat) (a0_0 : Int) (a0_1 : Int) (a0_2 : Int) (a0_3 : Int) (a0_4 : Int) (l0_5 : List Int) (l0_6 : List Int) (l0_7 : List Int) (l0_8 : List Int) : Option (Int × Int × Int × Int × Int × (List (S44)) × (List (S59))) := (broadsidebook_Within.f a0_0 1 5).bind fun t302 => ((broadsidebook_Within.f a0_1 0 4).bind fun t303 => ((broadsidebook_Within.f a0_2 0 4).bind fun t304 => (if t302 ≥ 3 then ((broadsidebook_Within.f a0_3 0 4).bind fun t306 => ((broadsidebook_Within.f a0_4 0 4).bind fun t307 => (broadsidekeep_Message_Message.j0 k a0_0 a0_1 a0_2 a0_3 a0_4 l0_5 l0_6 l0_7 l0_8 t302 t303 t304 t306 t307))) else (broadsidekeep_Message_Message.j0 k a0_0 a0_1 a0_2 a0_3 a0_4 l0_5 l0_6 l0_7 l0_8 t302 t303 t304 0 0))))
theorem broadsidekeep_Message_Message.mono_l : ∀ k, (∀ y0 y1 y2 y3 y4 y5 y6 y7 y8 y9 y10 y11 y12 y13, LeO (broadsidekeep_Message_Message.j0 k y0 y1 y2 y3 y4 y5 y6 y7 y8 y9 y10 y11 y12 y13) (broadsidekeep_Message_Message.j0 (k + 1) y0 y1 y2 y3 y4 y5 y6 y7 y8 y9 y10 y11 y12 y13)) ∧ (∀ y0 y1 y2 y3 y4 y5 y6 y7 y8 y9 y10 y11 y12 y13 y14, LeO (broadsidekeep_Message_Message.j1 k y0 y1 y2 y3 y4 y5 y6 y7 y8 y9 y10 y11 y12 y13 y14) (broadsidekeep_Message_Message.j1 (k + 1) y0 y1 y2 y3 y4 y5 y6 y7 y8 y9 y10 y11 y12 y13 y14))
  | 0 => ⟨fun _ _ _ _ _ _ _ _ _ _ _ _ _ _ r h => by simp [broadsidekeep_Message_Message.j0] at h, fun _ _ _ _ _ _ _ _ _ _ _ _ _ _ _ r h => by simp [broadsidekeep_Message_Message.j1] at h⟩
  | k + 1 => by
    obtain ⟨ih0, ih1⟩ := broadsidekeep_Message_Message.mono_l k
    refine ⟨?_, ?_⟩
    · intro y0 y1 y2 y3 y4 y5 y6 y7 y8 y9 y10 y11 y12 y13
      unfold broadsidekeep_Message_Message.j0
      repeat' first
      | (with_reducible exact ih0 _ _ _ _ _ _ _ _ _ _ _ _ _ _)
      | (with_reducible exact ih1 _ _ _ _ _ _ _ _ _ _ _ _ _ _ _)
      | (with_reducible exact broadsidekeep_Pred_Pred.mono _ _ _)
      | (with_reducible exact broadsidekeep_Tuple_Tuple.mono _ _ _)
      | (with_reducible exact LeO.refl _)
      | (with_reducible exact LeO.none _)
      | (with_reducible refine LeO.ite ?_ ?_)
      | (with_reducible refine LeO.bind ?_ (fun _ => ?_))
      | exact ih0 _ _ _ _ _ _ _ _ _ _ _ _ _ _
      | exact ih1 _ _ _ _ _ _ _ _ _ _ _ _ _ _ _
      | exact broadsidekeep_Pred_Pred.mono _ _ _
      | exact broadsidekeep_Tuple_Tuple.mono _ _ _
      | exact LeO.none _
      | refine LeO.ite ?_ ?_
      | refine LeO.bind ?_ (fun _ => ?_)
    · intro y0 y1 y2 y3 y4 y5 y6 y7 y8 y9 y10 y11 y12 y13 y14
      unfold broadsidekeep_Message_Message.j1
      repeat' first
      | (with_reducible exact ih0 _ _ _ _ _ _ _ _ _ _ _ _ _ _)
      | (with_reducible exact ih1 _ _ _ _ _ _ _ _ _ _ _ _ _ _ _)
      | (with_reducible exact broadsidekeep_Pred_Pred.mono _ _ _)
      | (with_reducible exact broadsidekeep_Tuple_Tuple.mono _ _ _)
      | (with_reducible exact LeO.refl _)
      | (with_reducible exact LeO.none _)
      | (with_reducible refine LeO.ite ?_ ?_)
      | (with_reducible refine LeO.bind ?_ (fun _ => ?_))
      | exact ih0 _ _ _ _ _ _ _ _ _ _ _ _ _ _
      | exact ih1 _ _ _ _ _ _ _ _ _ _ _ _ _ _ _
      | exact broadsidekeep_Pred_Pred.mono _ _ _
      | exact broadsidekeep_Tuple_Tuple.mono _ _ _
      | exact LeO.none _
      | refine LeO.ite ?_ ?_
      | refine LeO.bind ?_ (fun _ => ?_)
theorem broadsidekeep_Message_Message.mono : ∀ a0 a1 a2 a3 a4 a5 a6 a7 a8 k, LeO (broadsidekeep_Message_Message.f k a0 a1 a2 a3 a4 a5 a6 a7 a8) (broadsidekeep_Message_Message.f (k + 1) a0 a1 a2 a3 a4 a5 a6 a7 a8) := by
  intro a0 a1 a2 a3 a4 a5 a6 a7 a8 k
  obtain ⟨ih0, ih1⟩ := broadsidekeep_Message_Message.mono_l k
  unfold broadsidekeep_Message_Message.f
  repeat' first
      | (with_reducible exact ih0 _ _ _ _ _ _ _ _ _ _ _ _ _ _)
      | (with_reducible exact ih1 _ _ _ _ _ _ _ _ _ _ _ _ _ _ _)
      | (with_reducible exact broadsidekeep_Pred_Pred.mono _ _ _)
      | (with_reducible exact broadsidekeep_Tuple_Tuple.mono _ _ _)
      | (with_reducible exact LeO.refl _)
      | (with_reducible exact LeO.none _)
      | (with_reducible refine LeO.ite ?_ ?_)
      | (with_reducible refine LeO.bind ?_ (fun _ => ?_))
      | exact ih0 _ _ _ _ _ _ _ _ _ _ _ _ _ _
      | exact ih1 _ _ _ _ _ _ _ _ _ _ _ _ _ _ _
      | exact broadsidekeep_Pred_Pred.mono _ _ _
      | exact broadsidekeep_Tuple_Tuple.mono _ _ _
      | exact LeO.none _
      | refine LeO.ite ?_ ?_
      | refine LeO.bind ?_ (fun _ => ?_)
def broadsidekeep_Message_Message.T1 : Bool × List (List Nat × List Nat) := (true, [([], []), ([0], [0]), ([1], [1]), ([], []), ([3], [3]), ([4, 2], [4]), ([], []), ([6], [6]), ([7, 5], [7]), ([5, 8], [5, 8]), ([2, 9], [2, 9]), ([], []), ([11, 10, 8, 0, 1, 2, 3, 4, 5, 6, 7, 8, 9, 10, 11], [10, 11])])
def broadsidekeep_Message_Message.B1 : List Nat := [0, 1, 3, 0, 8, 31, 0, 64, 255, 511, 1023, 0, 4095]
theorem broadsidekeep_Message_Message.tab1 : rtab .any (opsOf Tryd.f23 1) = broadsidekeep_Message_Message.T1 := by kernel_rfl
theorem broadsidekeep_Message_Message.bits1 : waitsOk broadsidekeep_Message_Message.T1.2 broadsidekeep_Message_Message.B1 = true := by kernel_rfl
def broadsidekeep_Message_Message.T3 : Bool × List (List Nat × List Nat) := (true, [([], []), ([0], [0]), ([1], [1]), ([], []), ([3], [3]), ([4, 2], [4]), ([2, 5], [2, 5]), ([0, 1, 2, 3, 4, 5, 6], []), ([7, 6, 5, 0, 1, 2, 3, 4, 5, 6], [6, 7])])
def broadsidekeep_Message_Message.B3 : List Nat := [0, 1, 3, 0, 8, 31, 63, 127, 255]
theorem broadsidekeep_Message_Message.tab3 : rtab .any (opsOf Tryd.f23 3) = broadsidekeep_Message_Message.T3 := by kernel_rfl
theorem broadsidekeep_Message_Message.bits3 : waitsOk broadsidekeep_Message_Message.T3.2 broadsidekeep_Message_Message.B3 = true := by kernel_rfl
set_option maxHeartbeats 8000000 in
set_option maxRecDepth 100000 in
theorem broadsidekeep_Message_Message.calls (k : Nat) (a0_0 : Int) (a0_1 : Int) (a0_2 : Int) (a0_3 : Int) (a0_4 : Int) (A0_5 : Option Addr) (c0_5 : Nat) (l0_5 : List Int) (A0_6 : Option Addr) (c0_6 : Nat) (l0_6 : List Int) (A0_7 : Option Addr) (c0_7 : Nat) (l0_7 : List Int) (A0_8 : Option Addr) (c0_8 : Nat) (l0_8 : List Int) (r1 : Int) (r2 : Int) (r3 : Int) (r4 : Int) (r5 : Int) (r6 : List (S44)) (r7 : List (S59)) (w : World) (hr0_5 : Kd.C (Kd.int .i64) w A0_5 l0_5.length l0_5) (hc0_5 : l0_5.length ≤ c0_5) (hr0_6 : Kd.C (Kd.int .i64) w A0_6 l0_6.length l0_6) (hc0_6 : l0_6.length ≤ c0_6) (hr0_7 : Kd.C (Kd.int .i64) w A0_7 l0_7.length l0_7) (hc0_7 : l0_7.length ≤ c0_7) (hr0_8 : Kd.C (Kd.int .i64) w A0_8 l0_8.length l0_8) (hc0_8 : l0_8.length ≤ c0_8) (h : broadsidekeep_Message_Message.f k a0_0 a0_1 a0_2 a0_3 a0_4 l0_5 l0_6 l0_7 l0_8 = some (r1, r2, r3, r4, r5, r6, r7)) :
    Calls Tryd.prog 23 #[.agg #[.int .i64 a0_0, .int .i64 a0_1, .int .i64 a0_2, .int .i64 a0_3, .int .i64 a0_4, .slice A0_5 l0_5.length c0_5, .slice A0_6 l0_6.length c0_6, .slice A0_7 l0_7.length c0_7, .slice A0_8 l0_8.length c0_8]] w fun e w' => ∃ v5_ v6_ : Value, e = .returned (.agg #[.int .i64 r1, .int .i64 r2, .int .i64 r3, .int .i64 r4, .int .i64 r5, v5_, v6_]) ∧ Kd.R k44 44 w' w.heap.size (fun _ => True) v5_ r6 ∧ Kd.R k59 59 w' w.heap.size (fun _ => True) v6_ r7 ∧ Below w.heap.size w w' := by
  have hu53 := Tryd.underlying53
  have hu50 := Tryd.underlying50
  have hu48 := Tryd.underlying48
  have hu36 := Tryd.underlying36
  have hu37 := Tryd.underlying37
  have HR0_5 := Aside0.mk hr0_5
  have HC0_5 := Aside0.mk hc0_5
  clear hr0_5 hc0_5
  have HR0_6 := Aside0.mk hr0_6
  have HC0_6 := Aside0.mk hc0_6
  clear hr0_6 hc0_6
  have HR0_7 := Aside0.mk hr0_7
  have HC0_7 := Aside0.mk hc0_7
  clear hr0_7 hc0_7
  have HR0_8 := Aside0.mk hr0_8
  have HC0_8 := Aside0.mk hc0_8
  clear hr0_8 hc0_8
  have HB := Aside0.mk (Below.refl w.heap.size w)
  have H : ((broadsidebook_Within.f a0_0 1 5).bind fun t302 => ((broadsidebook_Within.f a0_1 0 4).bind fun t303 => ((broadsidebook_Within.f a0_2 0 4).bind fun t304 => (if t302 ≥ 3 then ((broadsidebook_Within.f a0_3 0 4).bind fun t306 => ((broadsidebook_Within.f a0_4 0 4).bind fun t307 => (broadsidekeep_Message_Message.j0 k a0_0 a0_1 a0_2 a0_3 a0_4 l0_5 l0_6 l0_7 l0_8 t302 t303 t304 t306 t307))) else (broadsidekeep_Message_Message.j0 k a0_0 a0_1 a0_2 a0_3 a0_4 l0_5 l0_6 l0_7 l0_8 t302 t303 t304 0 0))))) = some (r1, r2, r3, r4, r5, r6, r7) := h
  clear h
  replace H := Option.bind_eq_some_iff.mp H
  obtain ⟨t302, A20, H⟩ := H
  replace H : ((broadsidebook_Within.f a0_1 0 4).bind fun t303 => ((broadsidebook_Within.f a0_2 0 4).bind fun t304 => (if t302 ≥ 3 then ((broadsidebook_Within.f a0_3 0 4).bind fun t306 => ((broadsidebook_Within.f a0_4 0 4).bind fun t307 => (broadsidekeep_Message_Message.j0 k a0_0 a0_1 a0_2 a0_3 a0_4 l0_5 l0_6 l0_7 l0_8 t302 t303 t304 t306 t307))) else (broadsidekeep_Message_Message.j0 k a0_0 a0_1 a0_2 a0_3 a0_4 l0_5 l0_6 l0_7 l0_8 t302 t303 t304 0 0)))) = some (r1, r2, r3, r4, r5, r6, r7) := H
  have A2 := Aside0.mk A20
  clear A20
  replace H := Option.bind_eq_some_iff.mp H
  obtain ⟨t303, A30, H⟩ := H
  replace H : ((broadsidebook_Within.f a0_2 0 4).bind fun t304 => (if t302 ≥ 3 then ((broadsidebook_Within.f a0_3 0 4).bind fun t306 => ((broadsidebook_Within.f a0_4 0 4).bind fun t307 => (broadsidekeep_Message_Message.j0 k a0_0 a0_1 a0_2 a0_3 a0_4 l0_5 l0_6 l0_7 l0_8 t302 t303 t304 t306 t307))) else (broadsidekeep_Message_Message.j0 k a0_0 a0_1 a0_2 a0_3 a0_4 l0_5 l0_6 l0_7 l0_8 t302 t303 t304 0 0))) = some (r1, r2, r3, r4, r5, r6, r7) := H
  have A3 := Aside0.mk A30
  clear A30
  replace H := Option.bind_eq_some_iff.mp H
  obtain ⟨t304, A40, H⟩ := H
  replace H : (if t302 ≥ 3 then ((broadsidebook_Within.f a0_3 0 4).bind fun t306 => ((broadsidebook_Within.f a0_4 0 4).bind fun t307 => (broadsidekeep_Message_Message.j0 k a0_0 a0_1 a0_2 a0_3 a0_4 l0_5 l0_6 l0_7 l0_8 t302 t303 t304 t306 t307))) else (broadsidekeep_Message_Message.j0 k a0_0 a0_1 a0_2 a0_3 a0_4 l0_5 l0_6 l0_7 l0_8 t302 t303 t304 0 0)) = some (r1, r2, r3, r4, r5, r6, r7) := H
  have A4 := Aside0.mk A40
  clear A40
  have HC5 := Aside0.mk H
  clear H
  go_enter Tryd.func23, Tryd.ntmps23
  try go_wp2_with (first | ((with_reducible refine gate_dst (N := 1) rfl ?_); refine box_event ?hg (N := 1) ?hd (cs := #[.int .i64 a0_0, .int .i64 a0_1, .int .i64 a0_2, .int .i64 a0_3, .int .i64 a0_4, .slice A0_5 l0_5.length c0_5, .slice A0_6 l0_6.length c0_6, .slice A0_7 l0_7.length c0_7, .slice A0_8 l0_8.length c0_8]) (t := 53) ?hr ?_; (case hd => rfl); (case hg => rfl); (case hr => first | (go_simp; done) | (go_simp; rfl)); intro gb300 hg w6 hbox hb; have n0_ := Aside0.mk (below_step (by repeat (first | (with_reducible first | exact HB.out | apply below_alloc | apply pw_below_drewN | apply below_drew1) | exact HB.out)) hb); have n1_ := Aside0.mk (hbox); have n2_ := Aside0.mk ((by rw [hg]; exact (below_size (by repeat (first | (with_reducible first | exact HB.out | apply below_alloc | apply pw_below_drewN | apply below_drew1) | exact HB.out))) : w.heap.size ≤ gb300)); have n3_ := Aside0.mk ((by rw [hg]; exact (below_size (by repeat (first | (with_reducible first | exact HB.out | apply below_alloc | apply pw_below_drewN | apply below_drew1) | exact HB.out))) : w.heap.size ≤ gb300)); clear HB; have HB := n0_; have BK300 := n1_; have GW300 := n2_; have GE300 := n3_; clear n0_ n1_ n2_ n3_; clear hb hbox hg) | ((with_reducible refine gate_dst (N := 2) rfl ?_); refine box_event ?hg (N := 2) ?hd (cs := #[.int .i64 0, .int .i64 0, .int .i64 0, .int .i64 0, .int .i64 0, .slice none 0 0, .slice none 0 0]) (t := 50) ?hr ?_; (case hd => rfl); (case hg => rfl); (case hr => first | (go_simp; done) | (go_simp; rfl)); intro gb301 hg w7 hbox hb; have n0_ := Aside0.mk (blk_below (g := gb300) (o := .cells #[.int .i64 a0_0, .int .i64 a0_1, .int .i64 a0_2, .int .i64 a0_3, .int .i64 a0_4, .slice A0_5 l0_5.length c0_5, .slice A0_6 l0_6.length c0_6, .slice A0_7 l0_7.length c0_7, .slice A0_8 l0_8.length c0_8] 53 (0, 0)) (by (with_reducible repeat (first | refine blk_drewN ?_ _ | refine blk_drew ?_ | refine blk_alloc ?_ _)); exact BK300.out) hb); have n1_ := Aside0.mk (below_step (by repeat (first | (with_reducible first | exact HB.out | apply below_alloc | apply pw_below_drewN | apply below_drew1 | refine below_set ?_ GE300.out) | exact HB.out)) hb); have n2_ := Aside0.mk (hbox); have n3_ := Aside0.mk ((by rw [hg]; exact (below_size (by repeat (first | (with_reducible first | exact HB.out | apply below_alloc | apply pw_below_drewN | apply below_drew1 | refine below_set ?_ GE300.out) | exact HB.out))) : w.heap.size ≤ gb301)); have n4_ := Aside0.mk ((by rw [hg]; exact (below_size (by repeat (first | (with_reducible first | exact HB.out | apply below_alloc | apply pw_below_drewN | apply below_drew1 | refine below_set ?_ GE300.out) | exact HB.out))) : w.heap.size ≤ gb301)); have n5_ := Aside0.mk ((by rw [hg]; exact Nat.ne_of_lt (blk_lt (g := gb300) (o := .cells #[.int .i64 a0_0, .int .i64 a0_1, .int .i64 a0_2, .int .i64 a0_3, .int .i64 a0_4, .slice A0_5 l0_5.length c0_5, .slice A0_6 l0_6.length c0_6, .slice A0_7 l0_7.length c0_7, .slice A0_8 l0_8.length c0_8] 53 (0, 0)) (by (with_reducible repeat (first | refine blk_drewN ?_ _ | refine blk_drew ?_ | refine blk_alloc ?_ _)); exact BK300.out)) : gb300 ≠ gb301)); have n6_ := Aside0.mk ((by rw [hg]; exact Nat.ne_of_gt (blk_lt (g := gb300) (o := .cells #[.int .i64 a0_0, .int .i64 a0_1, .int .i64 a0_2, .int .i64 a0_3, .int .i64 a0_4, .slice A0_5 l0_5.length c0_5, .slice A0_6 l0_6.length c0_6, .slice A0_7 l0_7.length c0_7, .slice A0_8 l0_8.length c0_8] 53 (0, 0)) (by (with_reducible repeat (first | refine blk_drewN ?_ _ | refine blk_drew ?_ | refine blk_alloc ?_ _)); exact BK300.out)) : gb301 ≠ gb300)); clear BK300; clear HB; have BK300 := n0_; have HB := n1_; have BK301 := n2_; have GW301 := n3_; have GE301 := n4_; have NB300_301 := n5_; have NB301_300 := n6_; clear n0_ n1_ n2_ n3_ n4_ n5_ n6_; clear hb hbox hg))
  have n0_ := Aside0.mk (blk_drew BK300.out)
  have n1_ := Aside0.mk (blk_drew BK301.out)
  have n2_ := Aside0.mk (below_drew1 HB.out)
  clear BK300
  clear BK301
  clear HB
  have BK300 := n0_
  have BK301 := n1_
  have HB := n2_
  clear n0_ n1_ n2_
  refine start_ (n := 13) (S := fun w' => w'.cell? ⟨gb300, 0, none⟩ = some (.int .i64 a0_0) ∧ w'.cell? ⟨gb300, 1, none⟩ = some (.int .i64 a0_1) ∧ w'.cell? ⟨gb300, 2, none⟩ = some (.int .i64 a0_2) ∧ w'.cell? ⟨gb300, 3, none⟩ = some (.int .i64 a0_3) ∧ w'.cell? ⟨gb300, 4, none⟩ = some (.int .i64 a0_4) ∧ w'.cell? ⟨gb300, 5, none⟩ = some (.slice A0_5 l0_5.length c0_5) ∧ w'.cell? ⟨gb300, 6, none⟩ = some (.slice A0_6 l0_6.length c0_6) ∧ w'.cell? ⟨gb300, 7, none⟩ = some (.slice A0_7 l0_7.length c0_7) ∧ w'.cell? ⟨gb300, 8, none⟩ = some (.slice A0_8 l0_8.length c0_8)) (ds := []) #[false, false, false, false, false, false, false, false, false, false, false, false, false] (by kernel_rfl) rfl rfl ⟨(blk_cell BK300.out 0).trans rfl, (blk_cell BK300.out 1).trans rfl, (blk_cell BK300.out 2).trans rfl, (blk_cell BK300.out 3).trans rfl, (blk_cell BK300.out 4).trans rfl, (blk_cell BK300.out 5).trans rfl, (blk_cell BK300.out 6).trans rfl, (blk_cell BK300.out 7).trans rfl, (blk_cell BK300.out 8).trans rfl⟩ (fun hHeld => ?_); refine with_tabW broadsidekeep_Message_Message.tab1 broadsidekeep_Message_Message.bits1 (fun HT_ HW_ => ?_)
  generalize w7.drew = w8 at BK300 BK301 HB hHeld ⊢
  refine pure_ (i := 0) (N := some 4) (v := ?_) (a' := ?_) #[true, false, false, false, false, false, false, false, false, false, false, false, false] rfl rfl (any_of HT_.out (by kernel_rfl)) (fun _ _ _ h => h) (Or.inl ⟨by rfl, ?_⟩) ?_ ?_
  rotate_left
  · intro w'
    go_simp
    with_reducible rfl
  rotate_left
  · simp only [Act.put, List.setIfInBounds_toArray, List.set_cons_zero, List.set_cons_succ, i64_w, i32_w]
    rfl
  refine pure_ (i := 3) (N := some 7) (v := ?_) (a' := ?_) #[true, false, false, true, false, false, false, false, false, false, false, false, false] rfl rfl (any_of HT_.out (by kernel_rfl)) (fun _ _ _ h => h) (Or.inl ⟨by rfl, ?_⟩) ?_ ?_
  rotate_left
  · intro w'
    go_simp
    with_reducible rfl
  rotate_left
  · simp only [Act.put, List.setIfInBounds_toArray, List.set_cons_zero, List.set_cons_succ, i64_w, i32_w]
    rfl
  refine pure_ (i := 6) (N := some 10) (v := ?_) (a' := ?_) #[true, false, false, true, false, false, true, false, false, false, false, false, false] rfl rfl (any_of HT_.out (by kernel_rfl)) (fun _ _ _ h => h) (Or.inl ⟨by rfl, ?_⟩) ?_ ?_
  rotate_left
  · intro w'
    go_simp
    with_reducible rfl
  rotate_left
  · simp only [Act.put, List.setIfInBounds_toArray, List.set_cons_zero, List.set_cons_succ, i64_w, i32_w]
    rfl
  refine take_ (i := 1) (N := some 5) (v := ?_) (a' := ?_) #[true, true, false, true, false, false, true, false, false, false, false, false, false] rfl rfl (take_ofW HT_.out HW_.out (by kernel_rfl)) (fun _ _ _ h => h) (Or.inl ⟨by rfl, ?_⟩) hHeld ?_ ?_
  rotate_left
  · rintro w' ⟨s0, s1, s2, s3, s4, s5, s6, s7, s8⟩
    go_simp
    with_reducible rfl
  rotate_left
  · simp only [Act.put, List.setIfInBounds_toArray, List.set_cons_zero, List.set_cons_succ, i64_w, i32_w]
    rfl
  refine take_ (i := 4) (N := some 8) (v := ?_) (a' := ?_) #[true, true, false, true, true, false, true, false, false, false, false, false, false] rfl rfl (take_ofW HT_.out HW_.out (by kernel_rfl)) (fun _ _ _ h => h) (Or.inl ⟨by rfl, ?_⟩) hHeld ?_ ?_
  rotate_left
  · rintro w' ⟨s0, s1, s2, s3, s4, s5, s6, s7, s8⟩
    go_simp
    with_reducible rfl
  rotate_left
  · simp only [Act.put, List.setIfInBounds_toArray, List.set_cons_zero, List.set_cons_succ, i64_w, i32_w]
    rfl
  refine take_ (i := 7) (N := some 11) (v := ?_) (a' := ?_) #[true, true, false, true, true, false, true, true, false, false, false, false, false] rfl rfl (take_ofW HT_.out HW_.out (by kernel_rfl)) (fun _ _ _ h => h) (Or.inl ⟨by rfl, ?_⟩) hHeld ?_ ?_
  rotate_left
  · rintro w' ⟨s0, s1, s2, s3, s4, s5, s6, s7, s8⟩
    go_simp
    with_reducible rfl
  rotate_left
  · simp only [Act.put, List.setIfInBounds_toArray, List.set_cons_zero, List.set_cons_succ, i64_w, i32_w]
    rfl
  refine join_ (σ := Nat) 1 #[true, true, true, true, true, true, true, true, true, true, true, true, false] (fun s_ => [(6, .int .i64 t302), (9, .int .i64 t303), (12, .int .i64 t304), (3, .pointer (some ⟨s_, 0, none⟩)), (13, .agg #[.int .i64 t303, .int .i64 t304]), (14, .agg #[.int .i64 t302, .int .i64 t303, .int .i64 t304, .int .i64 0, .int .i64 0, .slice none 0 0, .slice none 0 0])]) (fun s_ w' => (w'.cell? ⟨gb300, 0, none⟩ = some (.int .i64 a0_0) ∧ w'.cell? ⟨gb300, 1, none⟩ = some (.int .i64 a0_1) ∧ w'.cell? ⟨gb300, 2, none⟩ = some (.int .i64 a0_2) ∧ w'.cell? ⟨gb300, 3, none⟩ = some (.int .i64 a0_3) ∧ w'.cell? ⟨gb300, 4, none⟩ = some (.int .i64 a0_4) ∧ w'.cell? ⟨gb300, 5, none⟩ = some (.slice A0_5 l0_5.length c0_5) ∧ w'.cell? ⟨gb300, 6, none⟩ = some (.slice A0_6 l0_6.length c0_6) ∧ w'.cell? ⟨gb300, 7, none⟩ = some (.slice A0_7 l0_7.length c0_7) ∧ w'.cell? ⟨gb300, 8, none⟩ = some (.slice A0_8 l0_8.length c0_8)) ∧ (w'.heap[gb300]? = some (.cells #[.int .i64 a0_0, .int .i64 a0_1, .int .i64 a0_2, .int .i64 a0_3, .int .i64 a0_4, .slice A0_5 l0_5.length c0_5, .slice A0_6 l0_6.length c0_6, .slice A0_7 l0_7.length c0_7, .slice A0_8 l0_8.length c0_8] 53 (0, 0))) ∧ (w'.heap[gb301]? = some (.cells #[.int .i64 0, .int .i64 0, .int .i64 0, .int .i64 0, .int .i64 0, .slice none 0 0, .slice none 0 0] 50 (0, 0))) ∧ (w'.heap[s_]? = some (.cells #[.int .i64 0, .int .i64 0, .int .i64 0, .int .i64 0, .int .i64 0, .slice none 0 0, .slice none 0 0] 50 (0, 0))) ∧ (w.heap.size ≤ s_) ∧ (w.heap.size ≤ s_) ∧ (gb300 ≠ s_) ∧ (s_ ≠ gb300) ∧ (gb301 ≠ s_) ∧ (s_ ≠ gb301) ∧ (Below w.heap.size w w')) ?_ ?_
  rotate_left
  · intro hCont
    refine two_ (i := 2) (j := 11) (Ni := some 6) (Nj := some 3) #[true, true, true, true, true, false, true, true, false, false, false, false, false] #[true, true, false, true, true, false, true, true, false, false, false, true, false] rfl rfl rfl rfl (two_of HT_.out (by kernel_rfl)) (by decide) (by decide) (fun K hK => ?_) (fun K hK => ?_)
    · skip
      refine goes_ Tryd.func24 (by kernel_rfl) rfl #[.int .i64 a0_0, .int .i64 1, .int .i64 5] (by rfl) rfl rfl (by (try simp only [List.map_toArray, List.map_cons, List.map_nil]); first | done | rfl | (simp only [List.length_drop, List.length_take]; rfl)) ?_
      with_reducible refine (broadsidebook_Within.calls a0_0 1 5 t302 _ A2.out).mono ?_
      rintro e w' ⟨rfl, ⟨nd, rfl⟩⟩
      refine ⟨_, rfl, ?_⟩
      refine hK.out _ _ ⟨(blk_cell BK300.out 0).trans rfl, (blk_cell BK300.out 1).trans rfl, (blk_cell BK300.out 2).trans rfl, (blk_cell BK300.out 3).trans rfl, (blk_cell BK300.out 4).trans rfl, (blk_cell BK300.out 5).trans rfl, (blk_cell BK300.out 6).trans rfl, (blk_cell BK300.out 7).trans rfl, (blk_cell BK300.out 8).trans rfl⟩ (fun hHeld => ?_)
      clear hK K
      refine norm_ (a' := ?_) ?_ ?_
      rotate_left
      · show Act.put _ (some 6) _ = _
        simp only [Act.put, List.setIfInBounds_toArray, List.set_cons_zero, List.set_cons_succ, i64_w, i32_w]
        rfl
      refine two_ (i := 5) (j := 11) (Ni := some 9) (Nj := some 3) #[true, true, true, true, true, true, true, true, false, false, false, false, false] #[true, true, true, true, true, false, true, true, false, false, false, true, false] rfl rfl rfl rfl (two_of HT_.out (by kernel_rfl)) (by decide) (by decide) (fun K hK => ?_) (fun K hK => ?_)
      · skip
        refine goes_ Tryd.func24 (by kernel_rfl) rfl #[.int .i64 a0_1, .int .i64 0, .int .i64 4] (by rfl) rfl rfl (by (try simp only [List.map_toArray, List.map_cons, List.map_nil]); first | done | rfl | (simp only [List.length_drop, List.length_take]; rfl)) ?_
        with_reducible refine (broadsidebook_Within.calls a0_1 0 4 t303 _ A3.out).mono ?_
        rintro e w' ⟨rfl, ⟨nd, rfl⟩⟩
        refine ⟨_, rfl, ?_⟩
        refine hK.out _ _ ⟨(blk_cell BK300.out 0).trans rfl, (blk_cell BK300.out 1).trans rfl, (blk_cell BK300.out 2).trans rfl, (blk_cell BK300.out 3).trans rfl, (blk_cell BK300.out 4).trans rfl, (blk_cell BK300.out 5).trans rfl, (blk_cell BK300.out 6).trans rfl, (blk_cell BK300.out 7).trans rfl, (blk_cell BK300.out 8).trans rfl⟩ (fun hHeld => ?_)
        clear hK K
        refine norm_ (a' := ?_) ?_ ?_
        rotate_left
        · show Act.put _ (some 9) _ = _
          simp only [Act.put, List.setIfInBounds_toArray, List.set_cons_zero, List.set_cons_succ, i64_w, i32_w]
          rfl
        refine two_ (i := 8) (j := 11) (Ni := some 12) (Nj := some 3) #[true, true, true, true, true, true, true, true, true, false, false, false, false] #[true, true, true, true, true, true, true, true, false, false, false, true, false] rfl rfl rfl rfl (two_of HT_.out (by kernel_rfl)) (by decide) (by decide) (fun K hK => ?_) (fun K hK => ?_)
        · skip
          refine goes_ Tryd.func24 (by kernel_rfl) rfl #[.int .i64 a0_2, .int .i64 0, .int .i64 4] (by rfl) rfl rfl (by (try simp only [List.map_toArray, List.map_cons, List.map_nil]); first | done | rfl | (simp only [List.length_drop, List.length_take]; rfl)) ?_
          with_reducible refine (broadsidebook_Within.calls a0_2 0 4 t304 _ A4.out).mono ?_
          rintro e w' ⟨rfl, ⟨nd, rfl⟩⟩
          refine ⟨_, rfl, ?_⟩
          refine hK.out _ _ ⟨(blk_cell BK300.out 0).trans rfl, (blk_cell BK300.out 1).trans rfl, (blk_cell BK300.out 2).trans rfl, (blk_cell BK300.out 3).trans rfl, (blk_cell BK300.out 4).trans rfl, (blk_cell BK300.out 5).trans rfl, (blk_cell BK300.out 6).trans rfl, (blk_cell BK300.out 7).trans rfl, (blk_cell BK300.out 8).trans rfl⟩ (fun hHeld => ?_)
          clear hK K
          refine norm_ (a' := ?_) ?_ ?_
          rotate_left
          · show Act.put _ (some 12) _ = _
            simp only [Act.put, List.setIfInBounds_toArray, List.set_cons_zero, List.set_cons_succ, i64_w, i32_w]
            rfl
          refine pure_ (i := 9) (N := some 13) (v := ?_) (a' := ?_) #[true, true, true, true, true, true, true, true, true, true, false, false, false] rfl rfl (any_of HT_.out (by kernel_rfl)) (fun _ _ _ h => h) (Or.inl ⟨by rfl, ?_⟩) ?_ ?_
          rotate_left
          · intro w'
            go_simp
            with_reducible rfl
          rotate_left
          · simp only [Act.put, List.setIfInBounds_toArray, List.set_cons_zero, List.set_cons_succ, i64_w, i32_w]
            rfl
          refine pure_ (i := 10) (N := some 14) (v := ?_) (a' := ?_) #[true, true, true, true, true, true, true, true, true, true, true, false, false] rfl rfl (any_of HT_.out (by kernel_rfl)) (fun _ _ _ h => h) (Or.inl ⟨by rfl, ?_⟩) ?_ ?_
          rotate_left
          · intro w'
            go_simp
            with_reducible rfl
          rotate_left
          · simp only [Act.put, List.setIfInBounds_toArray, List.set_cons_zero, List.set_cons_succ, i64_w, i32_w]
            rfl
          refine one_ (i := 11) (N := some 3) #[true, true, true, true, true, true, true, true, true, true, true, true, false] rfl rfl (one_of HT_.out (by kernel_rfl)) (by decide) (fun K hK => ?_)
          refine box_step ?hg (N := 3) ?hd (cs := #[.int .i64 0, .int .i64 0, .int .i64 0, .int .i64 0, .int .i64 0, .slice none 0 0, .slice none 0 0]) (t := 50) ?hr ?_; (case hd => rfl); (case hg => rfl); (case hr => first | (go_simp; done) | (go_simp; rfl))
          intro gb305 hg w9 hbox hb
          have n0_ := Aside0.mk (blk_below (g := gb300) (o := .cells #[.int .i64 a0_0, .int .i64 a0_1, .int .i64 a0_2, .int .i64 a0_3, .int .i64 a0_4, .slice A0_5 l0_5.length c0_5, .slice A0_6 l0_6.length c0_6, .slice A0_7 l0_7.length c0_7, .slice A0_8 l0_8.length c0_8] 53 (0, 0)) (by (with_reducible repeat (first | refine blk_drewN ?_ _ | refine blk_drew ?_ | refine blk_alloc ?_ _)); exact BK300.out) hb)
          have n1_ := Aside0.mk (blk_below (g := gb301) (o := .cells #[.int .i64 0, .int .i64 0, .int .i64 0, .int .i64 0, .int .i64 0, .slice none 0 0, .slice none 0 0] 50 (0, 0)) (by (with_reducible repeat (first | refine blk_drewN ?_ _ | refine blk_drew ?_ | refine blk_alloc ?_ _)); exact BK301.out) hb)
          have n2_ := Aside0.mk (below_step (by repeat (first | (with_reducible first | exact HB.out | apply below_alloc | apply pw_below_drewN | apply below_drew1 | refine below_set ?_ GE300.out | refine below_set ?_ GE301.out) | exact HB.out)) hb)
          have n3_ := Aside0.mk (hbox)
          have n4_ := Aside0.mk ((by rw [hg]; exact (below_size (by repeat (first | (with_reducible first | exact HB.out | apply below_alloc | apply pw_below_drewN | apply below_drew1 | refine below_set ?_ GE300.out | refine below_set ?_ GE301.out) | exact HB.out))) : w.heap.size ≤ gb305))
          have n5_ := Aside0.mk ((by rw [hg]; exact (below_size (by repeat (first | (with_reducible first | exact HB.out | apply below_alloc | apply pw_below_drewN | apply below_drew1 | refine below_set ?_ GE300.out | refine below_set ?_ GE301.out) | exact HB.out))) : w.heap.size ≤ gb305))
          have n6_ := Aside0.mk ((by rw [hg]; exact Nat.ne_of_lt (blk_lt (g := gb300) (o := .cells #[.int .i64 a0_0, .int .i64 a0_1, .int .i64 a0_2, .int .i64 a0_3, .int .i64 a0_4, .slice A0_5 l0_5.length c0_5, .slice A0_6 l0_6.length c0_6, .slice A0_7 l0_7.length c0_7, .slice A0_8 l0_8.length c0_8] 53 (0, 0)) (by (with_reducible repeat (first | refine blk_drewN ?_ _ | refine blk_drew ?_ | refine blk_alloc ?_ _)); exact BK300.out)) : gb300 ≠ gb305))
          have n7_ := Aside0.mk ((by rw [hg]; exact Nat.ne_of_gt (blk_lt (g := gb300) (o := .cells #[.int .i64 a0_0, .int .i64 a0_1, .int .i64 a0_2, .int .i64 a0_3, .int .i64 a0_4, .slice A0_5 l0_5.length c0_5, .slice A0_6 l0_6.length c0_6, .slice A0_7 l0_7.length c0_7, .slice A0_8 l0_8.length c0_8] 53 (0, 0)) (by (with_reducible repeat (first | refine blk_drewN ?_ _ | refine blk_drew ?_ | refine blk_alloc ?_ _)); exact BK300.out)) : gb305 ≠ gb300))
          have n8_ := Aside0.mk ((by rw [hg]; exact Nat.ne_of_lt (blk_lt (g := gb301) (o := .cells #[.int .i64 0, .int .i64 0, .int .i64 0, .int .i64 0, .int .i64 0, .slice none 0 0, .slice none 0 0] 50 (0, 0)) (by (with_reducible repeat (first | refine blk_drewN ?_ _ | refine blk_drew ?_ | refine blk_alloc ?_ _)); exact BK301.out)) : gb301 ≠ gb305))
          have n9_ := Aside0.mk ((by rw [hg]; exact Nat.ne_of_gt (blk_lt (g := gb301) (o := .cells #[.int .i64 0, .int .i64 0, .int .i64 0, .int .i64 0, .int .i64 0, .slice none 0 0, .slice none 0 0] 50 (0, 0)) (by (with_reducible repeat (first | refine blk_drewN ?_ _ | refine blk_drew ?_ | refine blk_alloc ?_ _)); exact BK301.out)) : gb305 ≠ gb301))
          clear BK300
          clear BK301
          clear HB
          have BK300 := n0_
          have BK301 := n1_
          have HB := n2_
          have BK305 := n3_
          have GW305 := n4_
          have GE305 := n5_
          have NB300_305 := n6_
          have NB305_300 := n7_
          have NB301_305 := n8_
          have NB305_301 := n9_
          clear n0_ n1_ n2_ n3_ n4_ n5_ n6_ n7_ n8_ n9_
          clear hb hbox hg
          refine hK.out _ _ ⟨(blk_cell BK300.out 0).trans rfl, (blk_cell BK300.out 1).trans rfl, (blk_cell BK300.out 2).trans rfl, (blk_cell BK300.out 3).trans rfl, (blk_cell BK300.out 4).trans rfl, (blk_cell BK300.out 5).trans rfl, (blk_cell BK300.out 6).trans rfl, (blk_cell BK300.out 7).trans rfl, (blk_cell BK300.out 8).trans rfl⟩ (fun hHeld => ?_)
          clear hK K
          refine norm_ (a' := ?_) ?_ ?_
          rotate_left
          · show Act.put _ (some 3) _ = _
            simp only [Act.put, List.setIfInBounds_toArray, List.set_cons_zero, List.set_cons_succ, i64_w, i32_w]
            rfl
          exact norm_ (by simp only [putAll, Act.put, List.setIfInBounds_toArray, List.set_cons_zero, List.set_cons_succ]) (hCont (gb305) _ ⟨hHeld, (by (with_reducible repeat (first | refine blk_drewN ?_ _ | refine blk_drew ?_ | refine blk_alloc ?_ _)); exact BK300.out), (by (with_reducible repeat (first | refine blk_drewN ?_ _ | refine blk_drew ?_ | refine blk_alloc ?_ _)); exact BK301.out), (by (with_reducible repeat (first | refine blk_drewN ?_ _ | refine blk_drew ?_ | refine blk_alloc ?_ _)); exact BK305.out), GW305.out, GE305.out, NB300_305.out, NB305_300.out, NB301_305.out, NB305_301.out, (by repeat (first | (with_reducible first | exact HB.out | apply below_alloc | apply pw_below_drewN | apply below_drew1 | refine below_set ?_ GE300.out | refine below_set ?_ GE301.out | refine below_set ?_ GE305.out) | exact HB.out))⟩)
        · skip
          refine box_step ?hg (N := 3) ?hd (cs := #[.int .i64 0, .int .i64 0, .int .i64 0, .int .i64 0, .int .i64 0, .slice none 0 0, .slice none 0 0]) (t := 50) ?hr ?_; (case hd => rfl); (case hg => rfl); (case hr => first | (go_simp; done) | (go_simp; rfl))
          intro gb305 hg w9 hbox hb
          have n0_ := Aside0.mk (blk_below (g := gb300) (o := .cells #[.int .i64 a0_0, .int .i64 a0_1, .int .i64 a0_2, .int .i64 a0_3, .int .i64 a0_4, .slice A0_5 l0_5.length c0_5, .slice A0_6 l0_6.length c0_6, .slice A0_7 l0_7.length c0_7, .slice A0_8 l0_8.length c0_8] 53 (0, 0)) (by (with_reducible repeat (first | refine blk_drewN ?_ _ | refine blk_drew ?_ | refine blk_alloc ?_ _)); exact BK300.out) hb)
          have n1_ := Aside0.mk (blk_below (g := gb301) (o := .cells #[.int .i64 0, .int .i64 0, .int .i64 0, .int .i64 0, .int .i64 0, .slice none 0 0, .slice none 0 0] 50 (0, 0)) (by (with_reducible repeat (first | refine blk_drewN ?_ _ | refine blk_drew ?_ | refine blk_alloc ?_ _)); exact BK301.out) hb)
          have n2_ := Aside0.mk (below_step (by repeat (first | (with_reducible first | exact HB.out | apply below_alloc | apply pw_below_drewN | apply below_drew1 | refine below_set ?_ GE300.out | refine below_set ?_ GE301.out) | exact HB.out)) hb)
          have n3_ := Aside0.mk (hbox)
          have n4_ := Aside0.mk ((by rw [hg]; exact (below_size (by repeat (first | (with_reducible first | exact HB.out | apply below_alloc | apply pw_below_drewN | apply below_drew1 | refine below_set ?_ GE300.out | refine below_set ?_ GE301.out) | exact HB.out))) : w.heap.size ≤ gb305))
          have n5_ := Aside0.mk ((by rw [hg]; exact (below_size (by repeat (first | (with_reducible first | exact HB.out | apply below_alloc | apply pw_below_drewN | apply below_drew1 | refine below_set ?_ GE300.out | refine below_set ?_ GE301.out) | exact HB.out))) : w.heap.size ≤ gb305))
          have n6_ := Aside0.mk ((by rw [hg]; exact Nat.ne_of_lt (blk_lt (g := gb300) (o := .cells #[.int .i64 a0_0, .int .i64 a0_1, .int .i64 a0_2, .int .i64 a0_3, .int .i64 a0_4, .slice A0_5 l0_5.length c0_5, .slice A0_6 l0_6.length c0_6, .slice A0_7 l0_7.length c0_7, .slice A0_8 l0_8.length c0_8] 53 (0, 0)) (by (with_reducible repeat (first | refine blk_drewN ?_ _ | refine blk_drew ?_ | refine blk_alloc ?_ _)); exact BK300.out)) : gb300 ≠ gb305))
          have n7_ := Aside0.mk ((by rw [hg]; exact Nat.ne_of_gt (blk_lt (g := gb300) (o := .cells #[.int .i64 a0_0, .int .i64 a0_1, .int .i64 a0_2, .int .i64 a0_3, .int .i64 a0_4, .slice A0_5 l0_5.length c0_5, .slice A0_6 l0_6.length c0_6, .slice A0_7 l0_7.length c0_7, .slice A0_8 l0_8.length c0_8] 53 (0, 0)) (by (with_reducible repeat (first | refine blk_drewN ?_ _ | refine blk_drew ?_ | refine blk_alloc ?_ _)); exact BK300.out)) : gb305 ≠ gb300))
          have n8_ := Aside0.mk ((by rw [hg]; exact Nat.ne_of_lt (blk_lt (g := gb301) (o := .cells #[.int .i64 0, .int .i64 0, .int .i64 0, .int .i64 0, .int .i64 0, .slice none 0 0, .slice none 0 0] 50 (0, 0)) (by (with_reducible repeat (first | refine blk_drewN ?_ _ | refine blk_drew ?_ | refine blk_alloc ?_ _)); exact BK301.out)) : gb301 ≠ gb305))
          have n9_ := Aside0.mk ((by rw [hg]; exact Nat.ne_of_gt (blk_lt (g := gb301) (o := .cells #[.int .i64 0, .int .i64 0, .int .i64 0, .int .i64 0, .int .i64 0, .slice none 0 0, .slice none 0 0] 50 (0, 0)) (by (with_reducible repeat (first | refine blk_drewN ?_ _ | refine blk_drew ?_ | refine blk_alloc ?_ _)); exact BK301.out)) : gb305 ≠ gb301))
          clear BK300
          clear BK301
          clear HB
          have BK300 := n0_
          have BK301 := n1_
          have HB := n2_
          have BK305 := n3_
          have GW305 := n4_
          have GE305 := n5_
          have NB300_305 := n6_
          have NB305_300 := n7_
          have NB301_305 := n8_
          have NB305_301 := n9_
          clear n0_ n1_ n2_ n3_ n4_ n5_ n6_ n7_ n8_ n9_
          clear hb hbox hg
          refine hK.out _ _ ⟨(blk_cell BK300.out 0).trans rfl, (blk_cell BK300.out 1).trans rfl, (blk_cell BK300.out 2).trans rfl, (blk_cell BK300.out 3).trans rfl, (blk_cell BK300.out 4).trans rfl, (blk_cell BK300.out 5).trans rfl, (blk_cell BK300.out 6).trans rfl, (blk_cell BK300.out 7).trans rfl, (blk_cell BK300.out 8).trans rfl⟩ (fun hHeld => ?_)
          clear hK K
          refine norm_ (a' := ?_) ?_ ?_
          rotate_left
          · show Act.put _ (some 3) _ = _
            simp only [Act.put, List.setIfInBounds_toArray, List.set_cons_zero, List.set_cons_succ, i64_w, i32_w]
            rfl
          refine one_ (i := 8) (N := some 12) #[true, true, true, true, true, true, true, true, true, false, false, true, false] rfl rfl (one_of HT_.out (by kernel_rfl)) (by decide) (fun K hK => ?_)
          refine goes_ Tryd.func24 (by kernel_rfl) rfl #[.int .i64 a0_2, .int .i64 0, .int .i64 4] (by rfl) rfl rfl (by (try simp only [List.map_toArray, List.map_cons, List.map_nil]); first | done | rfl | (simp only [List.length_drop, List.length_take]; rfl)) ?_
          with_reducible refine (broadsidebook_Within.calls a0_2 0 4 t304 _ A4.out).mono ?_
          rintro e w' ⟨rfl, ⟨nd, rfl⟩⟩
          refine ⟨_, rfl, ?_⟩
          refine hK.out _ _ ⟨(blk_cell BK300.out 0).trans rfl, (blk_cell BK300.out 1).trans rfl, (blk_cell BK300.out 2).trans rfl, (blk_cell BK300.out 3).trans rfl, (blk_cell BK300.out 4).trans rfl, (blk_cell BK300.out 5).trans rfl, (blk_cell BK300.out 6).trans rfl, (blk_cell BK300.out 7).trans rfl, (blk_cell BK300.out 8).trans rfl⟩ (fun hHeld => ?_)
          clear hK K
          refine norm_ (a' := ?_) ?_ ?_
          rotate_left
          · show Act.put _ (some 12) _ = _
            simp only [Act.put, List.setIfInBounds_toArray, List.set_cons_zero, List.set_cons_succ, i64_w, i32_w]
            rfl
          refine pure_ (i := 9) (N := some 13) (v := ?_) (a' := ?_) #[true, true, true, true, true, true, true, true, true, true, false, true, false] rfl rfl (any_of HT_.out (by kernel_rfl)) (fun _ _ _ h => h) (Or.inl ⟨by rfl, ?_⟩) ?_ ?_
          rotate_left
          · intro w'
            go_simp
            with_reducible rfl
          rotate_left
          · simp only [Act.put, List.setIfInBounds_toArray, List.set_cons_zero, List.set_cons_succ, i64_w, i32_w]
            rfl
          refine pure_ (i := 10) (N := some 14) (v := ?_) (a' := ?_) #[true, true, true, true, true, true, true, true, true, true, true, true, false] rfl rfl (any_of HT_.out (by kernel_rfl)) (fun _ _ _ h => h) (Or.inl ⟨by rfl, ?_⟩) ?_ ?_
          rotate_left
          · intro w'
            go_simp
            with_reducible rfl
          rotate_left
          · simp only [Act.put, List.setIfInBounds_toArray, List.set_cons_zero, List.set_cons_succ, i64_w, i32_w]
            rfl
          exact norm_ (by simp only [putAll, Act.put, List.setIfInBounds_toArray, List.set_cons_zero, List.set_cons_succ]) (hCont (gb305) _ ⟨hHeld, (by (with_reducible repeat (first | refine blk_drewN ?_ _ | refine blk_drew ?_ | refine blk_alloc ?_ _)); exact BK300.out), (by (with_reducible repeat (first | refine blk_drewN ?_ _ | refine blk_drew ?_ | refine blk_alloc ?_ _)); exact BK301.out), (by (with_reducible repeat (first | refine blk_drewN ?_ _ | refine blk_drew ?_ | refine blk_alloc ?_ _)); exact BK305.out), GW305.out, GE305.out, NB300_305.out, NB305_300.out, NB301_305.out, NB305_301.out, (by repeat (first | (with_reducible first | exact HB.out | apply below_alloc | apply pw_below_drewN | apply below_drew1 | refine below_set ?_ GE300.out | refine below_set ?_ GE301.out | refine below_set ?_ GE305.out) | exact HB.out))⟩)
      · skip
        refine box_step ?hg (N := 3) ?hd (cs := #[.int .i64 0, .int .i64 0, .int .i64 0, .int .i64 0, .int .i64 0, .slice none 0 0, .slice none 0 0]) (t := 50) ?hr ?_; (case hd => rfl); (case hg => rfl); (case hr => first | (go_simp; done) | (go_simp; rfl))
        intro gb305 hg w9 hbox hb
        have n0_ := Aside0.mk (blk_below (g := gb300) (o := .cells #[.int .i64 a0_0, .int .i64 a0_1, .int .i64 a0_2, .int .i64 a0_3, .int .i64 a0_4, .slice A0_5 l0_5.length c0_5, .slice A0_6 l0_6.length c0_6, .slice A0_7 l0_7.length c0_7, .slice A0_8 l0_8.length c0_8] 53 (0, 0)) (by (with_reducible repeat (first | refine blk_drewN ?_ _ | refine blk_drew ?_ | refine blk_alloc ?_ _)); exact BK300.out) hb)
        have n1_ := Aside0.mk (blk_below (g := gb301) (o := .cells #[.int .i64 0, .int .i64 0, .int .i64 0, .int .i64 0, .int .i64 0, .slice none 0 0, .slice none 0 0] 50 (0, 0)) (by (with_reducible repeat (first | refine blk_drewN ?_ _ | refine blk_drew ?_ | refine blk_alloc ?_ _)); exact BK301.out) hb)
        have n2_ := Aside0.mk (below_step (by repeat (first | (with_reducible first | exact HB.out | apply below_alloc | apply pw_below_drewN | apply below_drew1 | refine below_set ?_ GE300.out | refine below_set ?_ GE301.out) | exact HB.out)) hb)
        have n3_ := Aside0.mk (hbox)
        have n4_ := Aside0.mk ((by rw [hg]; exact (below_size (by repeat (first | (with_reducible first | exact HB.out | apply below_alloc | apply pw_below_drewN | apply below_drew1 | refine below_set ?_ GE300.out | refine below_set ?_ GE301.out) | exact HB.out))) : w.heap.size ≤ gb305))
        have n5_ := Aside0.mk ((by rw [hg]; exact (below_size (by repeat (first | (with_reducible first | exact HB.out | apply below_alloc | apply pw_below_drewN | apply below_drew1 | refine below_set ?_ GE300.out | refine below_set ?_ GE301.out) | exact HB.out))) : w.heap.size ≤ gb305))
        have n6_ := Aside0.mk ((by rw [hg]; exact Nat.ne_of_lt (blk_lt (g := gb300) (o := .cells #[.int .i64 a0_0, .int .i64 a0_1, .int .i64 a0_2, .int .i64 a0_3, .int .i64 a0_4, .slice A0_5 l0_5.length c0_5, .slice A0_6 l0_6.length c0_6, .slice A0_7 l0_7.length c0_7, .slice A0_8 l0_8.length c0_8] 53 (0, 0)) (by (with_reducible repeat (first | refine blk_drewN ?_ _ | refine blk_drew ?_ | refine blk_alloc ?_ _)); exact BK300.out)) : gb300 ≠ gb305))
        have n7_ := Aside0.mk ((by rw [hg]; exact Nat.ne_of_gt (blk_lt (g := gb300) (o := .cells #[.int .i64 a0_0, .int .i64 a0_1, .int .i64 a0_2, .int .i64 a0_3, .int .i64 a0_4, .slice A0_5 l0_5.length c0_5, .slice A0_6 l0_6.length c0_6, .slice A0_7 l0_7.length c0_7, .slice A0_8 l0_8.length c0_8] 53 (0, 0)) (by (with_reducible repeat (first | refine blk_drewN ?_ _ | refine blk_drew ?_ | refine blk_alloc ?_ _)); exact BK300.out)) : gb305 ≠ gb300))
        have n8_ := Aside0.mk ((by rw [hg]; exact Nat.ne_of_lt (blk_lt (g := gb301) (o := .cells #[.int .i64 0, .int .i64 0, .int .i64 0, .int .i64 0, .int .i64 0, .slice none 0 0, .slice none 0 0] 50 (0, 0)) (by (with_reducible repeat (first | refine blk_drewN ?_ _ | refine blk_drew ?_ | refine blk_alloc ?_ _)); exact BK301.out)) : gb301 ≠ gb305))
        have n9_ := Aside0.mk ((by rw [hg]; exact Nat.ne_of_gt (blk_lt (g := gb301) (o := .cells #[.int .i64 0, .int .i64 0, .int .i64 0, .int .i64 0, .int .i64 0, .slice none 0 0, .slice none 0 0] 50 (0, 0)) (by (with_reducible repeat (first | refine blk_drewN ?_ _ | refine blk_drew ?_ | refine blk_alloc ?_ _)); exact BK301.out)) : gb305 ≠ gb301))
        clear BK300
        clear BK301
        clear HB
        have BK300 := n0_
        have BK301 := n1_
        have HB := n2_
        have BK305 := n3_
        have GW305 := n4_
        have GE305 := n5_
        have NB300_305 := n6_
        have NB305_300 := n7_
        have NB301_305 := n8_
        have NB305_301 := n9_
        clear n0_ n1_ n2_ n3_ n4_ n5_ n6_ n7_ n8_ n9_
        clear hb hbox hg
        refine hK.out _ _ ⟨(blk_cell BK300.out 0).trans rfl, (blk_cell BK300.out 1).trans rfl, (blk_cell BK300.out 2).trans rfl, (blk_cell BK300.out 3).trans rfl, (blk_cell BK300.out 4).trans rfl, (blk_cell BK300.out 5).trans rfl, (blk_cell BK300.out 6).trans rfl, (blk_cell BK300.out 7).trans rfl, (blk_cell BK300.out 8).trans rfl⟩ (fun hHeld => ?_)
        clear hK K
        refine norm_ (a' := ?_) ?_ ?_
        rotate_left
        · show Act.put _ (some 3) _ = _
          simp only [Act.put, List.setIfInBounds_toArray, List.set_cons_zero, List.set_cons_succ, i64_w, i32_w]
          rfl
        refine one_ (i := 5) (N := some 9) #[true, true, true, true, true, true, true, true, false, false, false, true, false] rfl rfl (one_of HT_.out (by kernel_rfl)) (by decide) (fun K hK => ?_)
        refine goes_ Tryd.func24 (by kernel_rfl) rfl #[.int .i64 a0_1, .int .i64 0, .int .i64 4] (by rfl) rfl rfl (by (try simp only [List.map_toArray, List.map_cons, List.map_nil]); first | done | rfl | (simp only [List.length_drop, List.length_take]; rfl)) ?_
        with_reducible refine (broadsidebook_Within.calls a0_1 0 4 t303 _ A3.out).mono ?_
        rintro e w' ⟨rfl, ⟨nd, rfl⟩⟩
        refine ⟨_, rfl, ?_⟩
        refine hK.out _ _ ⟨(blk_cell BK300.out 0).trans rfl, (blk_cell BK300.out 1).trans rfl, (blk_cell BK300.out 2).trans rfl, (blk_cell BK300.out 3).trans rfl, (blk_cell BK300.out 4).trans rfl, (blk_cell BK300.out 5).trans rfl, (blk_cell BK300.out 6).trans rfl, (blk_cell BK300.out 7).trans rfl, (blk_cell BK300.out 8).trans rfl⟩ (fun hHeld => ?_)
        clear hK K
        refine norm_ (a' := ?_) ?_ ?_
        rotate_left
        · show Act.put _ (some 9) _ = _
          simp only [Act.put, List.setIfInBounds_toArray, List.set_cons_zero, List.set_cons_succ, i64_w, i32_w]
          rfl
        refine one_ (i := 8) (N := some 12) #[true, true, true, true, true, true, true, true, true, false, false, true, false] rfl rfl (one_of HT_.out (by kernel_rfl)) (by decide) (fun K hK => ?_)
        refine goes_ Tryd.func24 (by kernel_rfl) rfl #[.int .i64 a0_2, .int .i64 0, .int .i64 4] (by rfl) rfl rfl (by (try simp only [List.map_toArray, List.map_cons, List.map_nil]); first | done | rfl | (simp only [List.length_drop, List.length_take]; rfl)) ?_
        with_reducible refine (broadsidebook_Within.calls a0_2 0 4 t304 _ A4.out).mono ?_
        rintro e w' ⟨rfl, ⟨nd, rfl⟩⟩
        refine ⟨_, rfl, ?_⟩
        refine hK.out _ _ ⟨(blk_cell BK300.out 0).trans rfl, (blk_cell BK300.out 1).trans rfl, (blk_cell BK300.out 2).trans rfl, (blk_cell BK300.out 3).trans rfl, (blk_cell BK300.out 4).trans rfl, (blk_cell BK300.out 5).trans rfl, (blk_cell BK300.out 6).trans rfl, (blk_cell BK300.out 7).trans rfl, (blk_cell BK300.out 8).trans rfl⟩ (fun hHeld => ?_)
        clear hK K
        refine norm_ (a' := ?_) ?_ ?_
        rotate_left
        · show Act.put _ (some 12) _ = _
          simp only [Act.put, List.setIfInBounds_toArray, List.set_cons_zero, List.set_cons_succ, i64_w, i32_w]
          rfl
        refine pure_ (i := 9) (N := some 13) (v := ?_) (a' := ?_) #[true, true, true, true, true, true, true, true, true, true, false, true, false] rfl rfl (any_of HT_.out (by kernel_rfl)) (fun _ _ _ h => h) (Or.inl ⟨by rfl, ?_⟩) ?_ ?_
        rotate_left
        · intro w'
          go_simp
          with_reducible rfl
        rotate_left
        · simp only [Act.put, List.setIfInBounds_toArray, List.set_cons_zero, List.set_cons_succ, i64_w, i32_w]
          rfl
        refine pure_ (i := 10) (N := some 14) (v := ?_) (a' := ?_) #[true, true, true, true, true, true, true, true, true, true, true, true, false] rfl rfl (any_of HT_.out (by kernel_rfl)) (fun _ _ _ h => h) (Or.inl ⟨by rfl, ?_⟩) ?_ ?_
        rotate_left
        · intro w'
          go_simp
          with_reducible rfl
        rotate_left
        · simp only [Act.put, List.setIfInBounds_toArray, List.set_cons_zero, List.set_cons_succ, i64_w, i32_w]
          rfl
        exact norm_ (by simp only [putAll, Act.put, List.setIfInBounds_toArray, List.set_cons_zero, List.set_cons_succ]) (hCont (gb305) _ ⟨hHeld, (by (with_reducible repeat (first | refine blk_drewN ?_ _ | refine blk_drew ?_ | refine blk_alloc ?_ _)); exact BK300.out), (by (with_reducible repeat (first | refine blk_drewN ?_ _ | refine blk_drew ?_ | refine blk_alloc ?_ _)); exact BK301.out), (by (with_reducible repeat (first | refine blk_drewN ?_ _ | refine blk_drew ?_ | refine blk_alloc ?_ _)); exact BK305.out), GW305.out, GE305.out, NB300_305.out, NB305_300.out, NB301_305.out, NB305_301.out, (by repeat (first | (with_reducible first | exact HB.out | apply below_alloc | apply pw_below_drewN | apply below_drew1 | refine below_set ?_ GE300.out | refine below_set ?_ GE301.out | refine below_set ?_ GE305.out) | exact HB.out))⟩)
    · skip
      refine box_step ?hg (N := 3) ?hd (cs := #[.int .i64 0, .int .i64 0, .int .i64 0, .int .i64 0, .int .i64 0, .slice none 0 0, .slice none 0 0]) (t := 50) ?hr ?_; (case hd => rfl); (case hg => rfl); (case hr => first | (go_simp; done) | (go_simp; rfl))
      intro gb305 hg w9 hbox hb
      have n0_ := Aside0.mk (blk_below (g := gb300) (o := .cells #[.int .i64 a0_0, .int .i64 a0_1, .int .i64 a0_2, .int .i64 a0_3, .int .i64 a0_4, .slice A0_5 l0_5.length c0_5, .slice A0_6 l0_6.length c0_6, .slice A0_7 l0_7.length c0_7, .slice A0_8 l0_8.length c0_8] 53 (0, 0)) (by (with_reducible repeat (first | refine blk_drewN ?_ _ | refine blk_drew ?_ | refine blk_alloc ?_ _)); exact BK300.out) hb)
      have n1_ := Aside0.mk (blk_below (g := gb301) (o := .cells #[.int .i64 0, .int .i64 0, .int .i64 0, .int .i64 0, .int .i64 0, .slice none 0 0, .slice none 0 0] 50 (0, 0)) (by (with_reducible repeat (first | refine blk_drewN ?_ _ | refine blk_drew ?_ | refine blk_alloc ?_ _)); exact BK301.out) hb)
      have n2_ := Aside0.mk (below_step (by repeat (first | (with_reducible first | exact HB.out | apply below_alloc | apply pw_below_drewN | apply below_drew1 | refine below_set ?_ GE300.out | refine below_set ?_ GE301.out) | exact HB.out)) hb)
      have n3_ := Aside0.mk (hbox)
      have n4_ := Aside0.mk ((by rw [hg]; exact (below_size (by repeat (first | (with_reducible first | exact HB.out | apply below_alloc | apply pw_below_drewN | apply below_drew1 | refine below_set ?_ GE300.out | refine below_set ?_ GE301.out) | exact HB.out))) : w.heap.size ≤ gb305))
      have n5_ := Aside0.mk ((by rw [hg]; exact (below_size (by repeat (first | (with_reducible first | exact HB.out | apply below_alloc | apply pw_below_drewN | apply below_drew1 | refine below_set ?_ GE300.out | refine below_set ?_ GE301.out) | exact HB.out))) : w.heap.size ≤ gb305))
      have n6_ := Aside0.mk ((by rw [hg]; exact Nat.ne_of_lt (blk_lt (g := gb300) (o := .cells #[.int .i64 a0_0, .int .i64 a0_1, .int .i64 a0_2, .int .i64 a0_3, .int .i64 a0_4, .slice A0_5 l0_5.length c0_5, .slice A0_6 l0_6.length c0_6, .slice A0_7 l0_7.length c0_7, .slice A0_8 l0_8.length c0_8] 53 (0, 0)) (by (with_reducible repeat (first | refine blk_drewN ?_ _ | refine blk_drew ?_ | refine blk_alloc ?_ _)); exact BK300.out)) : gb300 ≠ gb305))
      have n7_ := Aside0.mk ((by rw [hg]; exact Nat.ne_of_gt (blk_lt (g := gb300) (o := .cells #[.int .i64 a0_0, .int .i64 a0_1, .int .i64 a0_2, .int .i64 a0_3, .int .i64 a0_4, .slice A0_5 l0_5.length c0_5, .slice A0_6 l0_6.length c0_6, .slice A0_7 l0_7.length c0_7, .slice A0_8 l0_8.length c0_8] 53 (0, 0)) (by (with_reducible repeat (first | refine blk_drewN ?_ _ | refine blk_drew ?_ | refine blk_alloc ?_ _)); exact BK300.out)) : gb305 ≠ gb300))
      have n8_ := Aside0.mk ((by rw [hg]; exact Nat.ne_of_lt (blk_lt (g := gb301) (o := .cells #[.int .i64 0, .int .i64 0, .int .i64 0, .int .i64 0, .int .i64 0, .slice none 0 0, .slice none 0 0] 50 (0, 0)) (by (with_reducible repeat (first | refine blk_drewN ?_ _ | refine blk_drew ?_ | refine blk_alloc ?_ _)); exact BK301.out)) : gb301 ≠ gb305))
      have n9_ := Aside0.mk ((by rw [hg]; exact Nat.ne_of_gt (blk_lt (g := gb301) (o := .cells #[.int .i64 0, .int .i64 0, .int .i64 0, .int .i64 0, .int .i64 0, .slice none 0 0, .slice none 0 0] 50 (0, 0)) (by (with_reducible repeat (first | refine blk_drewN ?_ _ | refine blk_drew ?_ | refine blk_alloc ?_ _)); exact BK301.out)) : gb305 ≠ gb301))
      clear BK300
      clear BK301
      clear HB
      have BK300 := n0_
      have BK301 := n1_
      have HB := n2_
      have BK305 := n3_
      have GW305 := n4_
      have GE305 := n5_
      have NB300_305 := n6_
      have NB305_300 := n7_
      have NB301_305 := n8_
      have NB305_301 := n9_
      clear n0_ n1_ n2_ n3_ n4_ n5_ n6_ n7_ n8_ n9_
      clear hb hbox hg
      refine hK.out _ _ ⟨(blk_cell BK300.out 0).trans rfl, (blk_cell BK300.out 1).trans rfl, (blk_cell BK300.out 2).trans rfl, (blk_cell BK300.out 3).trans rfl, (blk_cell BK300.out 4).trans rfl, (blk_cell BK300.out 5).trans rfl, (blk_cell BK300.out 6).trans rfl, (blk_cell BK300.out 7).trans rfl, (blk_cell BK300.out 8).trans rfl⟩ (fun hHeld => ?_)
      clear hK K
      refine norm_ (a' := ?_) ?_ ?_
      rotate_left
      · show Act.put _ (some 3) _ = _
        simp only [Act.put, List.setIfInBounds_toArray, List.set_cons_zero, List.set_cons_succ, i64_w, i32_w]
        rfl
      refine one_ (i := 2) (N := some 6) #[true, true, true, true, true, false, true, true, false, false, false, true, false] rfl rfl (one_of HT_.out (by kernel_rfl)) (by decide) (fun K hK => ?_)
      refine goes_ Tryd.func24 (by kernel_rfl) rfl #[.int .i64 a0_0, .int .i64 1, .int .i64 5] (by rfl) rfl rfl (by (try simp only [List.map_toArray, List.map_cons, List.map_nil]); first | done | rfl | (simp only [List.length_drop, List.length_take]; rfl)) ?_
      with_reducible refine (broadsidebook_Within.calls a0_0 1 5 t302 _ A2.out).mono ?_
      rintro e w' ⟨rfl, ⟨nd, rfl⟩⟩
      refine ⟨_, rfl, ?_⟩
      refine hK.out _ _ ⟨(blk_cell BK300.out 0).trans rfl, (blk_cell BK300.out 1).trans rfl, (blk_cell BK300.out 2).trans rfl, (blk_cell BK300.out 3).trans rfl, (blk_cell BK300.out 4).trans rfl, (blk_cell BK300.out 5).trans rfl, (blk_cell BK300.out 6).trans rfl, (blk_cell BK300.out 7).trans rfl, (blk_cell BK300.out 8).trans rfl⟩ (fun hHeld => ?_)
      clear hK K
      refine norm_ (a' := ?_) ?_ ?_
      rotate_left
      · show Act.put _ (some 6) _ = _
        simp only [Act.put, List.setIfInBounds_toArray, List.set_cons_zero, List.set_cons_succ, i64_w, i32_w]
        rfl
      refine one_ (i := 5) (N := some 9) #[true, true, true, true, true, true, true, true, false, false, false, true, false] rfl rfl (one_of HT_.out (by kernel_rfl)) (by decide) (fun K hK => ?_)
      refine goes_ Tryd.func24 (by kernel_rfl) rfl #[.int .i64 a0_1, .int .i64 0, .int .i64 4] (by rfl) rfl rfl (by (try simp only [List.map_toArray, List.map_cons, List.map_nil]); first | done | rfl | (simp only [List.length_drop, List.length_take]; rfl)) ?_
      with_reducible refine (broadsidebook_Within.calls a0_1 0 4 t303 _ A3.out).mono ?_
      rintro e w' ⟨rfl, ⟨nd, rfl⟩⟩
      refine ⟨_, rfl, ?_⟩
      refine hK.out _ _ ⟨(blk_cell BK300.out 0).trans rfl, (blk_cell BK300.out 1).trans rfl, (blk_cell BK300.out 2).trans rfl, (blk_cell BK300.out 3).trans rfl, (blk_cell BK300.out 4).trans rfl, (blk_cell BK300.out 5).trans rfl, (blk_cell BK300.out 6).trans rfl, (blk_cell BK300.out 7).trans rfl, (blk_cell BK300.out 8).trans rfl⟩ (fun hHeld => ?_)
      clear hK K
      refine norm_ (a' := ?_) ?_ ?_
      rotate_left
      · show Act.put _ (some 9) _ = _
        simp only [Act.put, List.setIfInBounds_toArray, List.set_cons_zero, List.set_cons_succ, i64_w, i32_w]
        rfl
      refine one_ (i := 8) (N := some 12) #[true, true, true, true, true, true, true, true, true, false, false, true, false] rfl rfl (one_of HT_.out (by kernel_rfl)) (by decide) (fun K hK => ?_)
      refine goes_ Tryd.func24 (by kernel_rfl) rfl #[.int .i64 a0_2, .int .i64 0, .int .i64 4] (by rfl) rfl rfl (by (try simp only [List.map_toArray, List.map_cons, List.map_nil]); first | done | rfl | (simp only [List.length_drop, List.length_take]; rfl)) ?_
      with_reducible refine (broadsidebook_Within.calls a0_2 0 4 t304 _ A4.out).mono ?_
      rintro e w' ⟨rfl, ⟨nd, rfl⟩⟩
      refine ⟨_, rfl, ?_⟩
      refine hK.out _ _ ⟨(blk_cell BK300.out 0).trans rfl, (blk_cell BK300.out 1).trans rfl, (blk_cell BK300.out 2).trans rfl, (blk_cell BK300.out 3).trans rfl, (blk_cell BK300.out 4).trans rfl, (blk_cell BK300.out 5).trans rfl, (blk_cell BK300.out 6).trans rfl, (blk_cell BK300.out 7).trans rfl, (blk_cell BK300.out 8).trans rfl⟩ (fun hHeld => ?_)
      clear hK K
      refine norm_ (a' := ?_) ?_ ?_
      rotate_left
      · show Act.put _ (some 12) _ = _
        simp only [Act.put, List.setIfInBounds_toArray, List.set_cons_zero, List.set_cons_succ, i64_w, i32_w]
        rfl
      refine pure_ (i := 9) (N := some 13) (v := ?_) (a' := ?_) #[true, true, true, true, true, true, true, true, true, true, false, true, false] rfl rfl (any_of HT_.out (by kernel_rfl)) (fun _ _ _ h => h) (Or.inl ⟨by rfl, ?_⟩) ?_ ?_
      rotate_left
      · intro w'
        go_simp
        with_reducible rfl
      rotate_left
      · simp only [Act.put, List.setIfInBounds_toArray, List.set_cons_zero, List.set_cons_succ, i64_w, i32_w]
        rfl
      refine pure_ (i := 10) (N := some 14) (v := ?_) (a' := ?_) #[true, true, true, true, true, true, true, true, true, true, true, true, false] rfl rfl (any_of HT_.out (by kernel_rfl)) (fun _ _ _ h => h) (Or.inl ⟨by rfl, ?_⟩) ?_ ?_
      rotate_left
      · intro w'
        go_simp
        with_reducible rfl
      rotate_left
      · simp only [Act.put, List.setIfInBounds_toArray, List.set_cons_zero, List.set_cons_succ, i64_w, i32_w]
        rfl
      exact norm_ (by simp only [putAll, Act.put, List.setIfInBounds_toArray, List.set_cons_zero, List.set_cons_succ]) (hCont (gb305) _ ⟨hHeld, (by (with_reducible repeat (first | refine blk_drewN ?_ _ | refine blk_drew ?_ | refine blk_alloc ?_ _)); exact BK300.out), (by (with_reducible repeat (first | refine blk_drewN ?_ _ | refine blk_drew ?_ | refine blk_alloc ?_ _)); exact BK301.out), (by (with_reducible repeat (first | refine blk_drewN ?_ _ | refine blk_drew ?_ | refine blk_alloc ?_ _)); exact BK305.out), GW305.out, GE305.out, NB300_305.out, NB305_300.out, NB301_305.out, NB305_301.out, (by repeat (first | (with_reducible first | exact HB.out | apply below_alloc | apply pw_below_drewN | apply below_drew1 | refine below_set ?_ GE300.out | refine below_set ?_ GE301.out | refine below_set ?_ GE305.out) | exact HB.out))⟩)
  rintro gb305 w10 ⟨hS_, h0_, h1_, h2_, h3_, h4_, h5_, h6_, h7_, h8_, h9_⟩
  have n0_ : Aside0 (w10.heap[gb300]? = some (.cells #[.int .i64 a0_0, .int .i64 a0_1, .int .i64 a0_2, .int .i64 a0_3, .int .i64 a0_4, .slice A0_5 l0_5.length c0_5, .slice A0_6 l0_6.length c0_6, .slice A0_7 l0_7.length c0_7, .slice A0_8 l0_8.length c0_8] 53 (0, 0))) := ⟨h0_⟩
  have n1_ : Aside0 (w10.heap[gb301]? = some (.cells #[.int .i64 0, .int .i64 0, .int .i64 0, .int .i64 0, .int .i64 0, .slice none 0 0, .slice none 0 0] 50 (0, 0))) := ⟨h1_⟩
  have n2_ : Aside0 (w10.heap[gb305]? = some (.cells #[.int .i64 0, .int .i64 0, .int .i64 0, .int .i64 0, .int .i64 0, .slice none 0 0, .slice none 0 0] 50 (0, 0))) := ⟨h2_⟩
  have n3_ : Aside0 (w.heap.size ≤ gb305) := ⟨h3_⟩
  have n4_ : Aside0 (w.heap.size ≤ gb305) := ⟨h4_⟩
  have n5_ : Aside0 (gb300 ≠ gb305) := ⟨h5_⟩
  have n6_ : Aside0 (gb305 ≠ gb300) := ⟨h6_⟩
  have n7_ : Aside0 (gb301 ≠ gb305) := ⟨h7_⟩
  have n8_ : Aside0 (gb305 ≠ gb301) := ⟨h8_⟩
  have n9_ : Aside0 (Below w.heap.size w w10) := ⟨h9_⟩
  clear BK300
  clear BK301
  clear HB
  clear h0_ h1_ h2_ h3_ h4_ h5_ h6_ h7_ h8_ h9_
  have BK300 := n0_
  have BK301 := n1_
  have BK305 := n2_
  have GW305 := n3_
  have GE305 := n4_
  have NB300_305 := n5_
  have NB305_300 := n6_
  have NB301_305 := n7_
  have NB305_301 := n8_
  have HB := n9_
  clear n0_ n1_ n2_ n3_ n4_ n5_ n6_ n7_ n8_ n9_
  have hHeld : w10.cell? ⟨gb300, 0, none⟩ = some (.int .i64 a0_0) ∧ w10.cell? ⟨gb300, 1, none⟩ = some (.int .i64 a0_1) ∧ w10.cell? ⟨gb300, 2, none⟩ = some (.int .i64 a0_2) ∧ w10.cell? ⟨gb300, 3, none⟩ = some (.int .i64 a0_3) ∧ w10.cell? ⟨gb300, 4, none⟩ = some (.int .i64 a0_4) ∧ w10.cell? ⟨gb300, 5, none⟩ = some (.slice A0_5 l0_5.length c0_5) ∧ w10.cell? ⟨gb300, 6, none⟩ = some (.slice A0_6 l0_6.length c0_6) ∧ w10.cell? ⟨gb300, 7, none⟩ = some (.slice A0_7 l0_7.length c0_7) ∧ w10.cell? ⟨gb300, 8, none⟩ = some (.slice A0_8 l0_8.length c0_8) := hS_
  refine norm_ (a' := ?_) ?_ ?_
  rotate_left
  · simp only [putAll, Act.put, List.setIfInBounds_toArray, List.set_cons_zero, List.set_cons_succ]
    rfl
  refine one_ (i := 12) (N := none) #[true, true, true, true, true, true, true, true, true, true, true, true, true] rfl rfl (one_of HT_.out (by kernel_rfl)) (by decide) (fun K hK => ?_)
  have hs11 : w10.cell? ⟨gb305, 0, none⟩ = some (.int .i64 0) := (blk_cell BK305.out 0).trans rfl
  have hfs11 := blk_frozen BK305.out 0
  have hns11_0 := NB300_305.out
  have hns11_1 := NB301_305.out
  have hms11_0 := NB305_300.out
  have hms11_1 := NB305_301.out
  have hs12 : w10.cell? ⟨gb305, 1, none⟩ = some (.int .i64 0) := (blk_cell BK305.out 1).trans rfl
  have hfs12 := blk_frozen BK305.out 1
  have hns12_0 := NB300_305.out
  have hns12_1 := NB301_305.out
  have hms12_0 := NB305_300.out
  have hms12_1 := NB305_301.out
  have hs13 : w10.cell? ⟨gb305, 2, none⟩ = some (.int .i64 0) := (blk_cell BK305.out 2).trans rfl
  have hfs13 := blk_frozen BK305.out 2
  have hns13_0 := NB300_305.out
  have hns13_1 := NB301_305.out
  have hms13_0 := NB305_300.out
  have hms13_1 := NB305_301.out
  have hs14 : w10.cell? ⟨gb305, 3, none⟩ = some (.int .i64 0) := (blk_cell BK305.out 3).trans rfl
  have hfs14 := blk_frozen BK305.out 3
  have hns14_0 := NB300_305.out
  have hns14_1 := NB301_305.out
  have hms14_0 := NB305_300.out
  have hms14_1 := NB305_301.out
  have hs15 : w10.cell? ⟨gb305, 4, none⟩ = some (.int .i64 0) := (blk_cell BK305.out 4).trans rfl
  have hfs15 := blk_frozen BK305.out 4
  have hns15_0 := NB300_305.out
  have hns15_1 := NB301_305.out
  have hms15_0 := NB305_300.out
  have hms15_1 := NB305_301.out
  have hs16 : w10.cell? ⟨gb305, 5, none⟩ = some (.slice none 0 0) := (blk_cell BK305.out 5).trans rfl
  have hfs16 := blk_frozen BK305.out 5
  have hns16_0 := NB300_305.out
  have hns16_1 := NB301_305.out
  have hms16_0 := NB305_300.out
  have hms16_1 := NB305_301.out
  have hs17 : w10.cell? ⟨gb305, 6, none⟩ = some (.slice none 0 0) := (blk_cell BK305.out 6).trans rfl
  have hfs17 := blk_frozen BK305.out 6
  have hns17_0 := NB300_305.out
  have hns17_1 := NB301_305.out
  have hms17_0 := NB305_300.out
  have hms17_1 := NB305_301.out
  refine skip_ (w1 := ?_) (by rfl) rfl ?_ ?_
  rotate_left
  · go_simp
    rfl
  refine hK.out _ _ ⟨((cell_far (p := ⟨gb305, _, none⟩) NB300_305.out _).trans (((cell_far (p := ⟨gb305, _, none⟩) NB300_305.out _).trans (((cell_far (p := ⟨gb305, _, none⟩) NB300_305.out _).trans (((cell_far (p := ⟨gb305, _, none⟩) NB300_305.out _).trans (((cell_far (p := ⟨gb305, _, none⟩) NB300_305.out _).trans (((cell_far (p := ⟨gb305, _, none⟩) NB300_305.out _).trans (((cell_far (p := ⟨gb305, _, none⟩) NB300_305.out _).trans (hHeld.1)))))))))))))), ((cell_far (p := ⟨gb305, _, none⟩) NB300_305.out _).trans (((cell_far (p := ⟨gb305, _, none⟩) NB300_305.out _).trans (((cell_far (p := ⟨gb305, _, none⟩) NB300_305.out _).trans (((cell_far (p := ⟨gb305, _, none⟩) NB300_305.out _).trans (((cell_far (p := ⟨gb305, _, none⟩) NB300_305.out _).trans (((cell_far (p := ⟨gb305, _, none⟩) NB300_305.out _).trans (((cell_far (p := ⟨gb305, _, none⟩) NB300_305.out _).trans (hHeld.2.1)))))))))))))), ((cell_far (p := ⟨gb305, _, none⟩) NB300_305.out _).trans (((cell_far (p := ⟨gb305, _, none⟩) NB300_305.out _).trans (((cell_far (p := ⟨gb305, _, none⟩) NB300_305.out _).trans (((cell_far (p := ⟨gb305, _, none⟩) NB300_305.out _).trans (((cell_far (p := ⟨gb305, _, none⟩) NB300_305.out _).trans (((cell_far (p := ⟨gb305, _, none⟩) NB300_305.out _).trans (((cell_far (p := ⟨gb305, _, none⟩) NB300_305.out _).trans (hHeld.2.2.1)))))))))))))), ((cell_far (p := ⟨gb305, _, none⟩) NB300_305.out _).trans (((cell_far (p := ⟨gb305, _, none⟩) NB300_305.out _).trans (((cell_far (p := ⟨gb305, _, none⟩) NB300_305.out _).trans (((cell_far (p := ⟨gb305, _, none⟩) NB300_305.out _).trans (((cell_far (p := ⟨gb305, _, none⟩) NB300_305.out _).trans (((cell_far (p := ⟨gb305, _, none⟩) NB300_305.out _).trans (((cell_far (p := ⟨gb305, _, none⟩) NB300_305.out _).trans (hHeld.2.2.2.1)))))))))))))), ((cell_far (p := ⟨gb305, _, none⟩) NB300_305.out _).trans (((cell_far (p := ⟨gb305, _, none⟩) NB300_305.out _).trans (((cell_far (p := ⟨gb305, _, none⟩) NB300_305.out _).trans (((cell_far (p := ⟨gb305, _, none⟩) NB300_305.out _).trans (((cell_far (p := ⟨gb305, _, none⟩) NB300_305.out _).trans (((cell_far (p := ⟨gb305, _, none⟩) NB300_305.out _).trans (((cell_far (p := ⟨gb305, _, none⟩) NB300_305.out _).trans (hHeld.2.2.2.2.1)))))))))))))), ((cell_far (p := ⟨gb305, _, none⟩) NB300_305.out _).trans (((cell_far (p := ⟨gb305, _, none⟩) NB300_305.out _).trans (((cell_far (p := ⟨gb305, _, none⟩) NB300_305.out _).trans (((cell_far (p := ⟨gb305, _, none⟩) NB300_305.out _).trans (((cell_far (p := ⟨gb305, _, none⟩) NB300_305.out _).trans (((cell_far (p := ⟨gb305, _, none⟩) NB300_305.out _).trans (((cell_far (p := ⟨gb305, _, none⟩) NB300_305.out _).trans (hHeld.2.2.2.2.2.1)))))))))))))), ((cell_far (p := ⟨gb305, _, none⟩) NB300_305.out _).trans (((cell_far (p := ⟨gb305, _, none⟩) NB300_305.out _).trans (((cell_far (p := ⟨gb305, _, none⟩) NB300_305.out _).trans (((cell_far (p := ⟨gb305, _, none⟩) NB300_305.out _).trans (((cell_far (p := ⟨gb305, _, none⟩) NB300_305.out _).trans (((cell_far (p := ⟨gb305, _, none⟩) NB300_305.out _).trans (((cell_far (p := ⟨gb305, _, none⟩) NB300_305.out _).trans (hHeld.2.2.2.2.2.2.1)))))))))))))), ((cell_far (p := ⟨gb305, _, none⟩) NB300_305.out _).trans (((cell_far (p := ⟨gb305, _, none⟩) NB300_305.out _).trans (((cell_far (p := ⟨gb305, _, none⟩) NB300_305.out _).trans (((cell_far (p := ⟨gb305, _, none⟩) NB300_305.out _).trans (((cell_far (p := ⟨gb305, _, none⟩) NB300_305.out _).trans (((cell_far (p := ⟨gb305, _, none⟩) NB300_305.out _).trans (((cell_far (p := ⟨gb305, _, none⟩) NB300_305.out _).trans (hHeld.2.2.2.2.2.2.2.1)))))))))))))), ((cell_far (p := ⟨gb305, _, none⟩) NB300_305.out _).trans (((cell_far (p := ⟨gb305, _, none⟩) NB300_305.out _).trans (((cell_far (p := ⟨gb305, _, none⟩) NB300_305.out _).trans (((cell_far (p := ⟨gb305, _, none⟩) NB300_305.out _).trans (((cell_far (p := ⟨gb305, _, none⟩) NB300_305.out _).trans (((cell_far (p := ⟨gb305, _, none⟩) NB300_305.out _).trans (((cell_far (p := ⟨gb305, _, none⟩) NB300_305.out _).trans (hHeld.2.2.2.2.2.2.2.2))))))))))))))⟩ (fun hHeld => ?_)
  clear hK K
  refine done_ (done_of HT_.out (by kernel_rfl)) ?_
  have hnb18 := NB305_300.out
  have hnc18 := NB300_305.out
  have hnb19 := NB305_301.out
  have hnc19 := NB301_305.out
  have hcz20_0 : w10.cell? ⟨gb305, 0, none⟩ = some (.int .i64 0) := (blk_cell BK305.out 0).trans rfl
  have hcz20_1 : w10.cell? ⟨gb305, 1, none⟩ = some (.int .i64 0) := (blk_cell BK305.out 1).trans rfl
  have hcz20_2 : w10.cell? ⟨gb305, 2, none⟩ = some (.int .i64 0) := (blk_cell BK305.out 2).trans rfl
  have hcz20_3 : w10.cell? ⟨gb305, 3, none⟩ = some (.int .i64 0) := (blk_cell BK305.out 3).trans rfl
  have hcz20_4 : w10.cell? ⟨gb305, 4, none⟩ = some (.int .i64 0) := (blk_cell BK305.out 4).trans rfl
  have hcz20_5 : w10.cell? ⟨gb305, 5, none⟩ = some (.slice none 0 0) := (blk_cell BK305.out 5).trans rfl
  have hcz20_6 : w10.cell? ⟨gb305, 6, none⟩ = some (.slice none 0 0) := (blk_cell BK305.out 6).trans rfl
  have hfz20_0 := blk_frozen BK305.out 0
  have hfz20_1 := blk_frozen BK305.out 1
  have hfz20_2 := blk_frozen BK305.out 2
  have hfz20_3 := blk_frozen BK305.out 3
  have hfz20_4 := blk_frozen BK305.out 4
  have hfz20_5 := blk_frozen BK305.out 5
  have hfz20_6 := blk_frozen BK305.out 6
  go_upto_if 17 with (fail)
  go_cut [] (fun wc => ∃ (kq : Nat) (x306003_4 : Int) (x306004_4 : Int), Aside0 (broadsidekeep_Message_Message.j0 kq a0_0 a0_1 a0_2 a0_3 a0_4 l0_5 l0_6 l0_7 l0_8 t302 t303 t304 x306003_4 x306004_4 = some (r1, r2, r3, r4, r5, r6, r7)) ∧ Aside0 (kq ≤ k) ∧ Aside0 (wc.heap[gb300]? = some (.cells #[.int .i64 a0_0, .int .i64 a0_1, .int .i64 a0_2, .int .i64 a0_3, .int .i64 a0_4, (.slice A0_5 l0_5.length c0_5), (.slice A0_6 l0_6.length c0_6), (.slice A0_7 l0_7.length c0_7), (.slice A0_8 l0_8.length c0_8)] 53 (0, 0))) ∧ Aside0 (wc.heap[gb301]? = some (.cells #[.int .i64 0, .int .i64 0, .int .i64 0, .int .i64 0, .int .i64 0, (.slice none 0 0), (.slice none 0 0)] 50 (0, 0))) ∧ Aside0 (wc.heap[gb305]? = some (.cells #[.int .i64 t302, .int .i64 t303, .int .i64 t304, .int .i64 x306003_4, .int .i64 x306004_4, (.slice none 0 0), (.slice none 0 0)] 50 (0, 0))) ∧ Aside0 (Below w.heap.size w wc))
  case first =>
    have H := HC5.out
    clear HC5
    by_cases c21 : t302 ≥ 3
    · rw [if_pos c21] at H
      have c21b0 : decide (3 ≤ t302) = true := decide_eq_true c21
      clear c21
      (first | rw [c21b0] | (simp only [i64_w, i32_w]; rw [c21b0]) | skip)
      replace H := Option.bind_eq_some_iff.mp H
      obtain ⟨t306, A220, H⟩ := H
      replace H : ((broadsidebook_Within.f a0_4 0 4).bind fun t307 => (broadsidekeep_Message_Message.j0 k a0_0 a0_1 a0_2 a0_3 a0_4 l0_5 l0_6 l0_7 l0_8 t302 t303 t304 t306 t307)) = some (r1, r2, r3, r4, r5, r6, r7) := H
      have A22 := Aside0.mk A220
      clear A220
      replace H := Option.bind_eq_some_iff.mp H
      obtain ⟨t307, A230, H⟩ := H
      replace H : (broadsidekeep_Message_Message.j0 k a0_0 a0_1 a0_2 a0_3 a0_4 l0_5 l0_6 l0_7 l0_8 t302 t303 t304 t306 t307) = some (r1, r2, r3, r4, r5, r6, r7) := H
      have A23 := Aside0.mk A230
      clear A230
      have H' := Aside0.mk H
      clear H
      try go_wp2
      have n0_ : Aside0 ((((((((w10.setCell ⟨gb305, 0, none⟩ (.int .i64 t302)).setCell ⟨gb305, 1, none⟩ (.int .i64 t303)).setCell ⟨gb305, 2, none⟩ (.int .i64 t304)).setCell ⟨gb305, 3, none⟩ (.int .i64 0)).setCell ⟨gb305, 4, none⟩ (.int .i64 0)).setCell ⟨gb305, 5, none⟩ (.slice none 0 0)).setCell ⟨gb305, 6, none⟩ (.slice none 0 0)).heap[gb300]? = some (.cells #[.int .i64 a0_0, .int .i64 a0_1, .int .i64 a0_2, .int .i64 a0_3, .int .i64 a0_4, .slice A0_5 l0_5.length c0_5, .slice A0_6 l0_6.length c0_6, .slice A0_7 l0_7.length c0_7, .slice A0_8 l0_8.length c0_8] 53 (0, 0))) := ⟨by (with_reducible repeat (first | refine blk_drewN ?_ _ | refine blk_drew ?_ | refine blk_alloc ?_ _)); refine blk_far ?_ NB300_305.out _; (with_reducible repeat (first | refine blk_drewN ?_ _ | refine blk_drew ?_ | refine blk_alloc ?_ _)); refine blk_far ?_ NB300_305.out _; (with_reducible repeat (first | refine blk_drewN ?_ _ | refine blk_drew ?_ | refine blk_alloc ?_ _)); refine blk_far ?_ NB300_305.out _; (with_reducible repeat (first | refine blk_drewN ?_ _ | refine blk_drew ?_ | refine blk_alloc ?_ _)); refine blk_far ?_ NB300_305.out _; (with_reducible repeat (first | refine blk_drewN ?_ _ | refine blk_drew ?_ | refine blk_alloc ?_ _)); refine blk_far ?_ NB300_305.out _; (with_reducible repeat (first | refine blk_drewN ?_ _ | refine blk_drew ?_ | refine blk_alloc ?_ _)); refine blk_far ?_ NB300_305.out _; (with_reducible repeat (first | refine blk_drewN ?_ _ | refine blk_drew ?_ | refine blk_alloc ?_ _)); refine blk_far ?_ NB300_305.out _; (with_reducible repeat (first | refine blk_drewN ?_ _ | refine blk_drew ?_ | refine blk_alloc ?_ _)); exact BK300.out⟩
      have n1_ : Aside0 ((((((((w10.setCell ⟨gb305, 0, none⟩ (.int .i64 t302)).setCell ⟨gb305, 1, none⟩ (.int .i64 t303)).setCell ⟨gb305, 2, none⟩ (.int .i64 t304)).setCell ⟨gb305, 3, none⟩ (.int .i64 0)).setCell ⟨gb305, 4, none⟩ (.int .i64 0)).setCell ⟨gb305, 5, none⟩ (.slice none 0 0)).setCell ⟨gb305, 6, none⟩ (.slice none 0 0)).heap[gb301]? = some (.cells #[.int .i64 0, .int .i64 0, .int .i64 0, .int .i64 0, .int .i64 0, .slice none 0 0, .slice none 0 0] 50 (0, 0))) := ⟨by (with_reducible repeat (first | refine blk_drewN ?_ _ | refine blk_drew ?_ | refine blk_alloc ?_ _)); refine blk_far ?_ NB301_305.out _; (with_reducible repeat (first | refine blk_drewN ?_ _ | refine blk_drew ?_ | refine blk_alloc ?_ _)); refine blk_far ?_ NB301_305.out _; (with_reducible repeat (first | refine blk_drewN ?_ _ | refine blk_drew ?_ | refine blk_alloc ?_ _)); refine blk_far ?_ NB301_305.out _; (with_reducible repeat (first | refine blk_drewN ?_ _ | refine blk_drew ?_ | refine blk_alloc ?_ _)); refine blk_far ?_ NB301_305.out _; (with_reducible repeat (first | refine blk_drewN ?_ _ | refine blk_drew ?_ | refine blk_alloc ?_ _)); refine blk_far ?_ NB301_305.out _; (with_reducible repeat (first | refine blk_drewN ?_ _ | refine blk_drew ?_ | refine blk_alloc ?_ _)); refine blk_far ?_ NB301_305.out _; (with_reducible repeat (first | refine blk_drewN ?_ _ | refine blk_drew ?_ | refine blk_alloc ?_ _)); refine blk_far ?_ NB301_305.out _; (with_reducible repeat (first | refine blk_drewN ?_ _ | refine blk_drew ?_ | refine blk_alloc ?_ _)); exact BK301.out⟩
      have n2_ : Aside0 ((((((((w10.setCell ⟨gb305, 0, none⟩ (.int .i64 t302)).setCell ⟨gb305, 1, none⟩ (.int .i64 t303)).setCell ⟨gb305, 2, none⟩ (.int .i64 t304)).setCell ⟨gb305, 3, none⟩ (.int .i64 0)).setCell ⟨gb305, 4, none⟩ (.int .i64 0)).setCell ⟨gb305, 5, none⟩ (.slice none 0 0)).setCell ⟨gb305, 6, none⟩ (.slice none 0 0)).heap[gb305]? = some (.cells #[.int .i64 t302, .int .i64 t303, .int .i64 t304, .int .i64 0, .int .i64 0, .slice none 0 0, .slice none 0 0] 50 (0, 0))) := ⟨by (with_reducible repeat (first | refine blk_drewN ?_ _ | refine blk_drew ?_ | refine blk_alloc ?_ _)); refine blk_put (cs := #[.int .i64 t302, .int .i64 t303, .int .i64 t304, .int .i64 0, .int .i64 0, .slice none 0 0, .slice none 0 0]) ?_ 6 _ rfl; (with_reducible repeat (first | refine blk_drewN ?_ _ | refine blk_drew ?_ | refine blk_alloc ?_ _)); refine blk_put (cs := #[.int .i64 t302, .int .i64 t303, .int .i64 t304, .int .i64 0, .int .i64 0, .slice none 0 0, .slice none 0 0]) ?_ 5 _ rfl; (with_reducible repeat (first | refine blk_drewN ?_ _ | refine blk_drew ?_ | refine blk_alloc ?_ _)); refine blk_put (cs := #[.int .i64 t302, .int .i64 t303, .int .i64 t304, .int .i64 0, .int .i64 0, .slice none 0 0, .slice none 0 0]) ?_ 4 _ rfl; (with_reducible repeat (first | refine blk_drewN ?_ _ | refine blk_drew ?_ | refine blk_alloc ?_ _)); refine blk_put (cs := #[.int .i64 t302, .int .i64 t303, .int .i64 t304, .int .i64 0, .int .i64 0, .slice none 0 0, .slice none 0 0]) ?_ 3 _ rfl; (with_reducible repeat (first | refine blk_drewN ?_ _ | refine blk_drew ?_ | refine blk_alloc ?_ _)); refine blk_put (cs := #[.int .i64 t302, .int .i64 t303, .int .i64 0, .int .i64 0, .int .i64 0, .slice none 0 0, .slice none 0 0]) ?_ 2 _ rfl; (with_reducible repeat (first | refine blk_drewN ?_ _ | refine blk_drew ?_ | refine blk_alloc ?_ _)); refine blk_put (cs := #[.int .i64 t302, .int .i64 0, .int .i64 0, .int .i64 0, .int .i64 0, .slice none 0 0, .slice none 0 0]) ?_ 1 _ rfl; (with_reducible repeat (first | refine blk_drewN ?_ _ | refine blk_drew ?_ | refine blk_alloc ?_ _)); refine blk_put (cs := #[.int .i64 0, .int .i64 0, .int .i64 0, .int .i64 0, .int .i64 0, .slice none 0 0, .slice none 0 0]) ?_ 0 _ rfl; (with_reducible repeat (first | refine blk_drewN ?_ _ | refine blk_drew ?_ | refine blk_alloc ?_ _)); exact BK305.out⟩
      have n3_ : Aside0 (Below w.heap.size w (((((((w10.setCell ⟨gb305, 0, none⟩ (.int .i64 t302)).setCell ⟨gb305, 1, none⟩ (.int .i64 t303)).setCell ⟨gb305, 2, none⟩ (.int .i64 t304)).setCell ⟨gb305, 3, none⟩ (.int .i64 0)).setCell ⟨gb305, 4, none⟩ (.int .i64 0)).setCell ⟨gb305, 5, none⟩ (.slice none 0 0)).setCell ⟨gb305, 6, none⟩ (.slice none 0 0))) := ⟨by repeat (first | (with_reducible first | exact HB.out | apply below_alloc | apply pw_below_drewN | apply below_drew1 | refine below_set ?_ GE300.out | refine below_set ?_ GE301.out | refine below_set ?_ GE305.out) | exact HB.out)⟩
      (try clear BK300)
      (try clear BK301)
      (try clear BK305)
      (try clear HB)
      generalize (((((((w10.setCell ⟨gb305, 0, none⟩ (.int .i64 t302)).setCell ⟨gb305, 1, none⟩ (.int .i64 t303)).setCell ⟨gb305, 2, none⟩ (.int .i64 t304)).setCell ⟨gb305, 3, none⟩ (.int .i64 0)).setCell ⟨gb305, 4, none⟩ (.int .i64 0)).setCell ⟨gb305, 5, none⟩ (.slice none 0 0)).setCell ⟨gb305, 6, none⟩ (.slice none 0 0)) = w24 at n0_ n1_ n2_ n3_ ⊢
      have BK300 := n0_
      have BK301 := n1_
      have BK305 := n2_
      have HB := n3_
      clear n0_ n1_ n2_ n3_
      have n0_ := Aside0.mk (blk_drew BK300.out)
      have n1_ := Aside0.mk (blk_drew BK301.out)
      have n2_ := Aside0.mk (blk_drew BK305.out)
      have n3_ := Aside0.mk (below_drew1 HB.out)
      clear BK300
      clear BK301
      clear BK305
      clear HB
      have BK300 := n0_
      have BK301 := n1_
      have BK305 := n2_
      have HB := n3_
      clear n0_ n1_ n2_ n3_
      refine start_ (n := 9) (S := fun w' => w'.cell? ⟨gb300, 0, none⟩ = some (.int .i64 a0_0) ∧ w'.cell? ⟨gb300, 1, none⟩ = some (.int .i64 a0_1) ∧ w'.cell? ⟨gb300, 2, none⟩ = some (.int .i64 a0_2) ∧ w'.cell? ⟨gb300, 3, none⟩ = some (.int .i64 a0_3) ∧ w'.cell? ⟨gb300, 4, none⟩ = some (.int .i64 a0_4) ∧ w'.cell? ⟨gb300, 5, none⟩ = some (.slice A0_5 l0_5.length c0_5) ∧ w'.cell? ⟨gb300, 6, none⟩ = some (.slice A0_6 l0_6.length c0_6) ∧ w'.cell? ⟨gb300, 7, none⟩ = some (.slice A0_7 l0_7.length c0_7) ∧ w'.cell? ⟨gb300, 8, none⟩ = some (.slice A0_8 l0_8.length c0_8)) (ds := []) #[false, false, false, false, false, false, false, false, false] (by kernel_rfl) rfl rfl ⟨(blk_cell BK300.out 0).trans rfl, (blk_cell BK300.out 1).trans rfl, (blk_cell BK300.out 2).trans rfl, (blk_cell BK300.out 3).trans rfl, (blk_cell BK300.out 4).trans rfl, (blk_cell BK300.out 5).trans rfl, (blk_cell BK300.out 6).trans rfl, (blk_cell BK300.out 7).trans rfl, (blk_cell BK300.out 8).trans rfl⟩ (fun hHeld => ?_); refine with_tabW broadsidekeep_Message_Message.tab3 broadsidekeep_Message_Message.bits3 (fun HT_ HW_ => ?_)
      generalize w24.drew = w25 at BK300 BK301 BK305 HB hHeld ⊢
      refine pure_ (i := 0) (N := some 18) (v := ?_) (a' := ?_) #[true, false, false, false, false, false, false, false, false] rfl rfl (any_of HT_.out (by kernel_rfl)) (fun _ _ _ h => h) (Or.inl ⟨by rfl, ?_⟩) ?_ ?_
      rotate_left
      · intro w'
        go_simp
        with_reducible rfl
      rotate_left
      · simp only [Act.put, List.setIfInBounds_toArray, List.set_cons_zero, List.set_cons_succ, i64_w, i32_w]
        rfl
      refine pure_ (i := 3) (N := some 21) (v := ?_) (a' := ?_) #[true, false, false, true, false, false, false, false, false] rfl rfl (any_of HT_.out (by kernel_rfl)) (fun _ _ _ h => h) (Or.inl ⟨by rfl, ?_⟩) ?_ ?_
      rotate_left
      · intro w'
        go_simp
        with_reducible rfl
      rotate_left
      · simp only [Act.put, List.setIfInBounds_toArray, List.set_cons_zero, List.set_cons_succ, i64_w, i32_w]
        rfl
      refine take_ (i := 1) (N := some 19) (v := ?_) (a' := ?_) #[true, true, false, true, false, false, false, false, false] rfl rfl (take_ofW HT_.out HW_.out (by kernel_rfl)) (fun _ _ _ h => h) (Or.inl ⟨by rfl, ?_⟩) hHeld ?_ ?_
      rotate_left
      · rintro w' ⟨s0, s1, s2, s3, s4, s5, s6, s7, s8⟩
        go_simp
        with_reducible rfl
      rotate_left
      · simp only [Act.put, List.setIfInBounds_toArray, List.set_cons_zero, List.set_cons_succ, i64_w, i32_w]
        rfl
      refine take_ (i := 4) (N := some 22) (v := ?_) (a' := ?_) #[true, true, false, true, true, false, false, false, false] rfl rfl (take_ofW HT_.out HW_.out (by kernel_rfl)) (fun _ _ _ h => h) (Or.inl ⟨by rfl, ?_⟩) hHeld ?_ ?_
      rotate_left
      · rintro w' ⟨s0, s1, s2, s3, s4, s5, s6, s7, s8⟩
        go_simp
        with_reducible rfl
      rotate_left
      · simp only [Act.put, List.setIfInBounds_toArray, List.set_cons_zero, List.set_cons_succ, i64_w, i32_w]
        rfl
      refine one_ (i := 2) (N := some 20) #[true, true, true, true, true, false, false, false, false] rfl rfl (one_of HT_.out (by kernel_rfl)) (by decide) (fun K hK => ?_)
      refine goes_ Tryd.func24 (by kernel_rfl) rfl #[.int .i64 a0_3, .int .i64 0, .int .i64 4] (by rfl) rfl rfl (by (try simp only [List.map_toArray, List.map_cons, List.map_nil]); first | done | rfl | (simp only [List.length_drop, List.length_take]; rfl)) ?_
      with_reducible refine (broadsidebook_Within.calls a0_3 0 4 t306 _ A22.out).mono ?_
      rintro e w' ⟨rfl, ⟨nd, rfl⟩⟩
      refine ⟨_, rfl, ?_⟩
      refine hK.out _ _ ⟨(blk_cell BK300.out 0).trans rfl, (blk_cell BK300.out 1).trans rfl, (blk_cell BK300.out 2).trans rfl, (blk_cell BK300.out 3).trans rfl, (blk_cell BK300.out 4).trans rfl, (blk_cell BK300.out 5).trans rfl, (blk_cell BK300.out 6).trans rfl, (blk_cell BK300.out 7).trans rfl, (blk_cell BK300.out 8).trans rfl⟩ (fun hHeld => ?_)
      clear hK K
      refine norm_ (a' := ?_) ?_ ?_
      rotate_left
      · show Act.put _ (some 20) _ = _
        simp only [Act.put, List.setIfInBounds_toArray, List.set_cons_zero, List.set_cons_succ, i64_w, i32_w]
        rfl
      refine one_ (i := 5) (N := some 23) #[true, true, true, true, true, true, false, false, false] rfl rfl (one_of HT_.out (by kernel_rfl)) (by decide) (fun K hK => ?_)
      refine goes_ Tryd.func24 (by kernel_rfl) rfl #[.int .i64 a0_4, .int .i64 0, .int .i64 4] (by rfl) rfl rfl (by (try simp only [List.map_toArray, List.map_cons, List.map_nil]); first | done | rfl | (simp only [List.length_drop, List.length_take]; rfl)) ?_
      with_reducible refine (broadsidebook_Within.calls a0_4 0 4 t307 _ A23.out).mono ?_
      rintro e w' ⟨rfl, ⟨nd, rfl⟩⟩
      refine ⟨_, rfl, ?_⟩
      refine hK.out _ _ ⟨(blk_cell BK300.out 0).trans rfl, (blk_cell BK300.out 1).trans rfl, (blk_cell BK300.out 2).trans rfl, (blk_cell BK300.out 3).trans rfl, (blk_cell BK300.out 4).trans rfl, (blk_cell BK300.out 5).trans rfl, (blk_cell BK300.out 6).trans rfl, (blk_cell BK300.out 7).trans rfl, (blk_cell BK300.out 8).trans rfl⟩ (fun hHeld => ?_)
      clear hK K
      refine norm_ (a' := ?_) ?_ ?_
      rotate_left
      · show Act.put _ (some 23) _ = _
        simp only [Act.put, List.setIfInBounds_toArray, List.set_cons_zero, List.set_cons_succ, i64_w, i32_w]
        rfl
      refine pure_ (i := 6) (N := some 24) (v := ?_) (a' := ?_) #[true, true, true, true, true, true, true, false, false] rfl rfl (any_of HT_.out (by kernel_rfl)) (fun _ _ _ h => h) (Or.inl ⟨by rfl, ?_⟩) ?_ ?_
      rotate_left
      · intro w'
        go_simp
        with_reducible rfl
      rotate_left
      · simp only [Act.put, List.setIfInBounds_toArray, List.set_cons_zero, List.set_cons_succ, i64_w, i32_w]
        rfl
      refine pure_ (i := 7) (N := some 25) (v := ?_) (a' := ?_) #[true, true, true, true, true, true, true, true, false] rfl rfl (any_of HT_.out (by kernel_rfl)) (fun _ _ _ h => h) (Or.inl ⟨by rfl, ?_⟩) ?_ ?_
      rotate_left
      · intro w'
        go_simp
        with_reducible rfl
      rotate_left
      · simp only [Act.put, List.setIfInBounds_toArray, List.set_cons_zero, List.set_cons_succ, i64_w, i32_w]
        rfl
      refine one_ (i := 8) (N := none) #[true, true, true, true, true, true, true, true, true] rfl rfl (one_of HT_.out (by kernel_rfl)) (by decide) (fun K hK => ?_)
      have hs26 : w25.cell? ⟨gb305, 3, none⟩ = some (.int .i64 0) := (blk_cell BK305.out 3).trans rfl
      have hfs26 := blk_frozen BK305.out 3
      have hns26_0 := NB300_305.out
      have hns26_1 := NB301_305.out
      have hms26_0 := NB305_300.out
      have hms26_1 := NB305_301.out
      have hs27 : w25.cell? ⟨gb305, 4, none⟩ = some (.int .i64 0) := (blk_cell BK305.out 4).trans rfl
      have hfs27 := blk_frozen BK305.out 4
      have hns27_0 := NB300_305.out
      have hns27_1 := NB301_305.out
      have hms27_0 := NB305_300.out
      have hms27_1 := NB305_301.out
      refine skip_ (w1 := ?_) (by rfl) rfl ?_ ?_
      rotate_left
      · go_simp
        rfl
      refine hK.out _ _ ⟨((cell_far (p := ⟨gb305, _, none⟩) NB300_305.out _).trans (((cell_far (p := ⟨gb305, _, none⟩) NB300_305.out _).trans (hHeld.1)))), ((cell_far (p := ⟨gb305, _, none⟩) NB300_305.out _).trans (((cell_far (p := ⟨gb305, _, none⟩) NB300_305.out _).trans (hHeld.2.1)))), ((cell_far (p := ⟨gb305, _, none⟩) NB300_305.out _).trans (((cell_far (p := ⟨gb305, _, none⟩) NB300_305.out _).trans (hHeld.2.2.1)))), ((cell_far (p := ⟨gb305, _, none⟩) NB300_305.out _).trans (((cell_far (p := ⟨gb305, _, none⟩) NB300_305.out _).trans (hHeld.2.2.2.1)))), ((cell_far (p := ⟨gb305, _, none⟩) NB300_305.out _).trans (((cell_far (p := ⟨gb305, _, none⟩) NB300_305.out _).trans (hHeld.2.2.2.2.1)))), ((cell_far (p := ⟨gb305, _, none⟩) NB300_305.out _).trans (((cell_far (p := ⟨gb305, _, none⟩) NB300_305.out _).trans (hHeld.2.2.2.2.2.1)))), ((cell_far (p := ⟨gb305, _, none⟩) NB300_305.out _).trans (((cell_far (p := ⟨gb305, _, none⟩) NB300_305.out _).trans (hHeld.2.2.2.2.2.2.1)))), ((cell_far (p := ⟨gb305, _, none⟩) NB300_305.out _).trans (((cell_far (p := ⟨gb305, _, none⟩) NB300_305.out _).trans (hHeld.2.2.2.2.2.2.2.1)))), ((cell_far (p := ⟨gb305, _, none⟩) NB300_305.out _).trans (((cell_far (p := ⟨gb305, _, none⟩) NB300_305.out _).trans (hHeld.2.2.2.2.2.2.2.2))))⟩ (fun hHeld => ?_)
      clear hK K
      refine done_ (done_of HT_.out (by kernel_rfl)) ?_
      try go_wp2
      go_meet
      case rel => exact ⟨_, (t306), (t307), H', ⟨by first | omega | exact Nat.le_refl _⟩, ⟨by (with_reducible repeat (first | refine blk_drewN ?_ _ | refine blk_drew ?_ | refine blk_alloc ?_ _)); refine blk_far ?_ NB300_305.out _; (with_reducible repeat (first | refine blk_drewN ?_ _ | refine blk_drew ?_ | refine blk_alloc ?_ _)); refine blk_far ?_ NB300_305.out _; (with_reducible repeat (first | refine blk_drewN ?_ _ | refine blk_drew ?_ | refine blk_alloc ?_ _)); exact BK300.out⟩, ⟨by (with_reducible repeat (first | refine blk_drewN ?_ _ | refine blk_drew ?_ | refine blk_alloc ?_ _)); refine blk_far ?_ NB301_305.out _; (with_reducible repeat (first | refine blk_drewN ?_ _ | refine blk_drew ?_ | refine blk_alloc ?_ _)); refine blk_far ?_ NB301_305.out _; (with_reducible repeat (first | refine blk_drewN ?_ _ | refine blk_drew ?_ | refine blk_alloc ?_ _)); exact BK301.out⟩, ⟨by (with_reducible repeat (first | refine blk_drewN ?_ _ | refine blk_drew ?_ | refine blk_alloc ?_ _)); refine blk_put (cs := #[.int .i64 t302, .int .i64 t303, .int .i64 t304, .int .i64 t306, .int .i64 0, .slice none 0 0, .slice none 0 0]) ?_ 4 _ rfl; (with_reducible repeat (first | refine blk_drewN ?_ _ | refine blk_drew ?_ | refine blk_alloc ?_ _)); refine blk_put (cs := #[.int .i64 t302, .int .i64 t303, .int .i64 t304, .int .i64 0, .int .i64 0, .slice none 0 0, .slice none 0 0]) ?_ 3 _ rfl; (with_reducible repeat (first | refine blk_drewN ?_ _ | refine blk_drew ?_ | refine blk_alloc ?_ _)); exact BK305.out⟩, ⟨by repeat (first | (with_reducible first | exact HB.out | apply below_alloc | apply pw_below_drewN | apply below_drew1 | refine below_set ?_ GE300.out | refine below_set ?_ GE301.out | refine below_set ?_ GE305.out) | exact HB.out)⟩⟩
    · rw [if_neg c21] at H
      have c21b0 : decide (3 ≤ t302) = false := decide_eq_false c21
      clear c21
      (first | rw [c21b0] | (simp only [i64_w, i32_w]; rw [c21b0]) | skip)
      have H' := Aside0.mk H
      clear H
      go_wp2
      go_meet
      case rel => exact ⟨_, (0), (0), H', ⟨by first | omega | exact Nat.le_refl _⟩, ⟨by (with_reducible repeat (first | refine blk_drewN ?_ _ | refine blk_drew ?_ | refine blk_alloc ?_ _)); refine blk_far ?_ NB300_305.out _; (with_reducible repeat (first | refine blk_drewN ?_ _ | refine blk_drew ?_ | refine blk_alloc ?_ _)); refine blk_far ?_ NB300_305.out _; (with_reducible repeat (first | refine blk_drewN ?_ _ | refine blk_drew ?_ | refine blk_alloc ?_ _)); refine blk_far ?_ NB300_305.out _; (with_reducible repeat (first | refine blk_drewN ?_ _ | refine blk_drew ?_ | refine blk_alloc ?_ _)); refine blk_far ?_ NB300_305.out _; (with_reducible repeat (first | refine blk_drewN ?_ _ | refine blk_drew ?_ | refine blk_alloc ?_ _)); refine blk_far ?_ NB300_305.out _; (with_reducible repeat (first | refine blk_drewN ?_ _ | refine blk_drew ?_ | refine blk_alloc ?_ _)); refine blk_far ?_ NB300_305.out _; (with_reducible repeat (first | refine blk_drewN ?_ _ | refine blk_drew ?_ | refine blk_alloc ?_ _)); refine blk_far ?_ NB300_305.out _; (with_reducible repeat (first | refine blk_drewN ?_ _ | refine blk_drew ?_ | refine blk_alloc ?_ _)); exact BK300.out⟩, ⟨by (with_reducible repeat (first | refine blk_drewN ?_ _ | refine blk_drew ?_ | refine blk_alloc ?_ _)); refine blk_far ?_ NB301_305.out _; (with_reducible repeat (first | refine blk_drewN ?_ _ | refine blk_drew ?_ | refine blk_alloc ?_ _)); refine blk_far ?_ NB301_305.out _; (with_reducible repeat (first | refine blk_drewN ?_ _ | refine blk_drew ?_ | refine blk_alloc ?_ _)); refine blk_far ?_ NB301_305.out _; (with_reducible repeat (first | refine blk_drewN ?_ _ | refine blk_drew ?_ | refine blk_alloc ?_ _)); refine blk_far ?_ NB301_305.out _; (with_reducible repeat (first | refine blk_drewN ?_ _ | refine blk_drew ?_ | refine blk_alloc ?_ _)); refine blk_far ?_ NB301_305.out _; (with_reducible repeat (first | refine blk_drewN ?_ _ | refine blk_drew ?_ | refine blk_alloc ?_ _)); refine blk_far ?_ NB301_305.out _; (with_reducible repeat (first | refine blk_drewN ?_ _ | refine blk_drew ?_ | refine blk_alloc ?_ _)); refine blk_far ?_ NB301_305.out _; (with_reducible repeat (first | refine blk_drewN ?_ _ | refine blk_drew ?_ | refine blk_alloc ?_ _)); exact BK301.out⟩, ⟨by (with_reducible repeat (first | refine blk_drewN ?_ _ | refine blk_drew ?_ | refine blk_alloc ?_ _)); refine blk_put (cs := #[.int .i64 t302, .int .i64 t303, .int .i64 t304, .int .i64 0, .int .i64 0, .slice none 0 0, .slice none 0 0]) ?_ 6 _ rfl; (with_reducible repeat (first | refine blk_drewN ?_ _ | refine blk_drew ?_ | refine blk_alloc ?_ _)); refine blk_put (cs := #[.int .i64 t302, .int .i64 t303, .int .i64 t304, .int .i64 0, .int .i64 0, .slice none 0 0, .slice none 0 0]) ?_ 5 _ rfl; (with_reducible repeat (first | refine blk_drewN ?_ _ | refine blk_drew ?_ | refine blk_alloc ?_ _)); refine blk_put (cs := #[.int .i64 t302, .int .i64 t303, .int .i64 t304, .int .i64 0, .int .i64 0, .slice none 0 0, .slice none 0 0]) ?_ 4 _ rfl; (with_reducible repeat (first | refine blk_drewN ?_ _ | refine blk_drew ?_ | refine blk_alloc ?_ _)); refine blk_put (cs := #[.int .i64 t302, .int .i64 t303, .int .i64 t304, .int .i64 0, .int .i64 0, .slice none 0 0, .slice none 0 0]) ?_ 3 _ rfl; (with_reducible repeat (first | refine blk_drewN ?_ _ | refine blk_drew ?_ | refine blk_alloc ?_ _)); refine blk_put (cs := #[.int .i64 t302, .int .i64 t303, .int .i64 0, .int .i64 0, .int .i64 0, .slice none 0 0, .slice none 0 0]) ?_ 2 _ rfl; (with_reducible repeat (first | refine blk_drewN ?_ _ | refine blk_drew ?_ | refine blk_alloc ?_ _)); refine blk_put (cs := #[.int .i64 t302, .int .i64 0, .int .i64 0, .int .i64 0, .int .i64 0, .slice none 0 0, .slice none 0 0]) ?_ 1 _ rfl; (with_reducible repeat (first | refine blk_drewN ?_ _ | refine blk_drew ?_ | refine blk_alloc ?_ _)); refine blk_put (cs := #[.int .i64 0, .int .i64 0, .int .i64 0, .int .i64 0, .int .i64 0, .slice none 0 0, .slice none 0 0]) ?_ 0 _ rfl; (with_reducible repeat (first | refine blk_drewN ?_ _ | refine blk_drew ?_ | refine blk_alloc ?_ _)); exact BK305.out⟩, ⟨by repeat (first | (with_reducible first | exact HB.out | apply below_alloc | apply pw_below_drewN | apply below_drew1 | refine below_set ?_ GE300.out | refine below_set ?_ GE301.out | refine below_set ?_ GE305.out) | exact HB.out)⟩⟩
  case rest =>
    clear HC5
    try clear c1
    try clear c2
    try clear p2
    try clear c18
    try clear c19
    try clear c21
    try clear c21b0
    try clear c24
    try clear hcz20_0
    try clear hcz20_1
    try clear hcz20_2
    try clear hcz20_3
    try clear hcz20_4
    try clear hcz20_5
    try clear hcz20_6
    try clear hfz20_0
    try clear hfz20_1
    try clear hfz20_2
    try clear hfz20_3
    try clear hfz20_4
    try clear hfz20_5
    try clear hfz20_6
    obtain ⟨kq, x306003_4, x306004_4, HA, HJ4, BK300, BK301, BK305, HB⟩ := hcut
    cases kq with
    | zero => exact absurd HA.out (by simp [broadsidekeep_Message_Message.j0])
    | succ kj4 =>
      have H := HA.out
      clear HA
      simp only [broadsidekeep_Message_Message.j0] at H
      have HC28 := Aside0.mk H
      clear H
      go_upto_region 4 with (fail)
      go_cut [33] (fun v33 wc => ∃ (kq : Nat) (x33_27 : Bool), v33 = .bool x33_27 ∧ Aside0 (broadsidekeep_Message_Message.j1 kq x33_27 a0_0 a0_1 a0_2 a0_3 a0_4 l0_5 l0_6 l0_7 l0_8 t302 t303 t304 x306003_4 x306004_4 = some (r1, r2, r3, r4, r5, r6, r7)) ∧ Aside0 (kq ≤ kj4) ∧ Aside0 (wc.heap[gb300]? = some (.cells #[.int .i64 a0_0, .int .i64 a0_1, .int .i64 a0_2, .int .i64 a0_3, .int .i64 a0_4, (.slice A0_5 l0_5.length c0_5), (.slice A0_6 l0_6.length c0_6), (.slice A0_7 l0_7.length c0_7), (.slice A0_8 l0_8.length c0_8)] 53 (0, 0))) ∧ Aside0 (wc.heap[gb301]? = some (.cells #[.int .i64 0, .int .i64 0, .int .i64 0, .int .i64 0, .int .i64 0, (.slice none 0 0), (.slice none 0 0)] 50 (0, 0))) ∧ Aside0 (wc.heap[gb305]? = some (.cells #[.int .i64 t302, .int .i64 t303, .int .i64 t304, .int .i64 x306003_4, .int .i64 x306004_4, (.slice none 0 0), (.slice none 0 0)] 50 (0, 0))) ∧ Aside0 (Below w.heap.size w wc))
      case first =>
        have H := HC28.out
        clear HC28
        by_cases c29 : t302 = 1
        · rw [if_pos c29] at H
          have c29b0 : (t302 == 1) = true := beq_iff_eq.mpr c29
          have c29b1 : (t302 != 1) = false := bne_eq_false_iff_eq.mpr c29
          clear c29
          (first | rw [c29b0] | (simp only [i64_w, i32_w]; rw [c29b0]) | skip)
          have H' := Aside0.mk H
          clear H
          have hnb30 := NB305_300.out
          have hnc30 := NB300_305.out
          have hnb31 := NB305_301.out
          have hnc31 := NB301_305.out
          have hcz32_0 : wc.cell? ⟨gb305, 0, none⟩ = some (.int .i64 t302) := (blk_cell BK305.out 0).trans rfl
          have hcz32_1 : wc.cell? ⟨gb305, 1, none⟩ = some (.int .i64 t303) := (blk_cell BK305.out 1).trans rfl
          have hcz32_2 : wc.cell? ⟨gb305, 2, none⟩ = some (.int .i64 t304) := (blk_cell BK305.out 2).trans rfl
          have hcz32_3 : wc.cell? ⟨gb305, 3, none⟩ = some (.int .i64 x306003_4) := (blk_cell BK305.out 3).trans rfl
          have hcz32_4 : wc.cell? ⟨gb305, 4, none⟩ = some (.int .i64 x306004_4) := (blk_cell BK305.out 4).trans rfl
          have hcz32_5 : wc.cell? ⟨gb305, 5, none⟩ = some (.slice none 0 0) := (blk_cell BK305.out 5).trans rfl
          have hcz32_6 : wc.cell? ⟨gb305, 6, none⟩ = some (.slice none 0 0) := (blk_cell BK305.out 6).trans rfl
          have hfz32_0 := blk_frozen BK305.out 0
          have hfz32_1 := blk_frozen BK305.out 1
          have hfz32_2 := blk_frozen BK305.out 2
          have hfz32_3 := blk_frozen BK305.out 3
          have hfz32_4 := blk_frozen BK305.out 4
          have hfz32_5 := blk_frozen BK305.out 5
          have hfz32_6 := blk_frozen BK305.out 6
          go_wp2
          go_meet
          case rel => exact ⟨_, (true), (by first | rfl | (simp; done) | (simp [*]; done)), H', ⟨by have := HJ4.out; first | omega | exact Nat.le_refl _⟩, ⟨by (with_reducible repeat (first | refine blk_drewN ?_ _ | refine blk_drew ?_ | refine blk_alloc ?_ _)); exact BK300.out⟩, ⟨by (with_reducible repeat (first | refine blk_drewN ?_ _ | refine blk_drew ?_ | refine blk_alloc ?_ _)); exact BK301.out⟩, ⟨by (with_reducible repeat (first | refine blk_drewN ?_ _ | refine blk_drew ?_ | refine blk_alloc ?_ _)); exact BK305.out⟩, ⟨by repeat (first | (with_reducible first | exact HB.out | apply below_alloc | apply pw_below_drewN | apply below_drew1 | refine below_set ?_ GE300.out | refine below_set ?_ GE301.out | refine below_set ?_ GE305.out) | exact HB.out)⟩⟩
        · rw [if_neg c29] at H
          have c29b0 : (t302 == 1) = false := beq_eq_false_iff_ne.mpr c29
          have c29b1 : (t302 != 1) = true := bne_iff_ne.mpr c29
          (first | rw [c29b0] | (simp only [i64_w, i32_w]; rw [c29b0]) | skip)
          have H' := Aside0.mk H
          clear H
          have hnb33 := NB305_300.out
          have hnc33 := NB300_305.out
          have hnb34 := NB305_301.out
          have hnc34 := NB301_305.out
          have hcz35_0 : wc.cell? ⟨gb305, 0, none⟩ = some (.int .i64 t302) := (blk_cell BK305.out 0).trans rfl
          have hcz35_1 : wc.cell? ⟨gb305, 1, none⟩ = some (.int .i64 t303) := (blk_cell BK305.out 1).trans rfl
          have hcz35_2 : wc.cell? ⟨gb305, 2, none⟩ = some (.int .i64 t304) := (blk_cell BK305.out 2).trans rfl
          have hcz35_3 : wc.cell? ⟨gb305, 3, none⟩ = some (.int .i64 x306003_4) := (blk_cell BK305.out 3).trans rfl
          have hcz35_4 : wc.cell? ⟨gb305, 4, none⟩ = some (.int .i64 x306004_4) := (blk_cell BK305.out 4).trans rfl
          have hcz35_5 : wc.cell? ⟨gb305, 5, none⟩ = some (.slice none 0 0) := (blk_cell BK305.out 5).trans rfl
          have hcz35_6 : wc.cell? ⟨gb305, 6, none⟩ = some (.slice none 0 0) := (blk_cell BK305.out 6).trans rfl
          have hfz35_0 := blk_frozen BK305.out 0
          have hfz35_1 := blk_frozen BK305.out 1
          have hfz35_2 := blk_frozen BK305.out 2
          have hfz35_3 := blk_frozen BK305.out 3
          have hfz35_4 := blk_frozen BK305.out 4
          have hfz35_5 := blk_frozen BK305.out 5
          have hfz35_6 := blk_frozen BK305.out 6
          go_wp2
          go_meet
          case rel => exact ⟨_, ((t302 == 3)), (by first | rfl | (simp; done) | (simp [*]; done)), H', ⟨by have := HJ4.out; first | omega | exact Nat.le_refl _⟩, ⟨by (with_reducible repeat (first | refine blk_drewN ?_ _ | refine blk_drew ?_ | refine blk_alloc ?_ _)); exact BK300.out⟩, ⟨by (with_reducible repeat (first | refine blk_drewN ?_ _ | refine blk_drew ?_ | refine blk_alloc ?_ _)); exact BK301.out⟩, ⟨by (with_reducible repeat (first | refine blk_drewN ?_ _ | refine blk_drew ?_ | refine blk_alloc ?_ _)); exact BK305.out⟩, ⟨by repeat (first | (with_reducible first | exact HB.out | apply below_alloc | apply pw_below_drewN | apply below_drew1 | refine below_set ?_ GE300.out | refine below_set ?_ GE301.out | refine below_set ?_ GE305.out) | exact HB.out)⟩⟩
      case rest =>
        clear HC28
        try clear c1
        try clear c2
        try clear p2
        try clear c3
        try clear c18
        try clear c19
        try clear c21
        try clear c21b0
        try clear c24
        try clear c29
        try clear c29b0
        try clear c29b1
        try clear c30
        try clear c31
        try clear c33
        try clear c34
        try clear hcz20_0
        try clear hcz20_1
        try clear hcz20_2
        try clear hcz20_3
        try clear hcz20_4
        try clear hcz20_5
        try clear hcz20_6
        try clear hcz32_0
        try clear hcz32_1
        try clear hcz32_2
        try clear hcz32_3
        try clear hcz32_4
        try clear hcz32_5
        try clear hcz32_6
        try clear hcz35_0
        try clear hcz35_1
        try clear hcz35_2
        try clear hcz35_3
        try clear hcz35_4
        try clear hcz35_5
        try clear hcz35_6
        try clear hfz20_0
        try clear hfz20_1
        try clear hfz20_2
        try clear hfz20_3
        try clear hfz20_4
        try clear hfz20_5
        try clear hfz20_6
        try clear hfz32_0
        try clear hfz32_1
        try clear hfz32_2
        try clear hfz32_3
        try clear hfz32_4
        try clear hfz32_5
        try clear hfz32_6
        try clear hfz35_0
        try clear hfz35_1
        try clear hfz35_2
        try clear hfz35_3
        try clear hfz35_4
        try clear hfz35_5
        try clear hfz35_6
        try clear p2
        obtain ⟨kq, x33_27, rfl, HA, HJ27, BK300, BK301, BK305, HB⟩ := hcut
        cases kq with
        | zero => exact absurd HA.out (by simp [broadsidekeep_Message_Message.j1])
        | succ kj27 =>
          have H := HA.out
          clear HA
          simp only [broadsidekeep_Message_Message.j1] at H
          by_cases c36 : x33_27 = true
          · subst c36
            have H1 : ((broadsidekeep_Pred_Pred.f kj27 l0_5 l0_6).bind fun t308 => (if t302 = 5 then ((broadsidekeep_Tuple_Tuple.f kj27 l0_7 l0_8).bind fun t311 => (some (t302, t303, t304, x306003_4, x306004_4, t308, t311))) else (some (t302, t303, t304, x306003_4, x306004_4, t308, ([] : List (S59)))))) = some (r1, r2, r3, r4, r5, r6, r7) := by rw [if_pos rfl] at H; exact H
            clear H
            have H := H1
            clear H1
            replace H := Option.bind_eq_some_iff.mp H
            obtain ⟨t308, A370, H⟩ := H
            replace H : (if t302 = 5 then ((broadsidekeep_Tuple_Tuple.f kj27 l0_7 l0_8).bind fun t311 => (some (t302, t303, t304, x306003_4, x306004_4, t308, t311))) else (some (t302, t303, t304, x306003_4, x306004_4, t308, ([] : List (S59))))) = some (r1, r2, r3, r4, r5, r6, r7) := H
            have A37 := Aside0.mk A370
            clear A370
            by_cases c38 : t302 = 5
            · rw [if_pos c38] at H
              have c38b0 : (t302 == 5) = true := beq_iff_eq.mpr c38
              have c38b1 : (t302 != 5) = false := bne_eq_false_iff_eq.mpr c38
              clear c38
              replace H := Option.bind_eq_some_iff.mp H
              obtain ⟨t311, A390, H⟩ := H
              replace H : (some (t302, t303, t304, x306003_4, x306004_4, t308, t311)) = some (r1, r2, r3, r4, r5, r6, r7) := H
              have A39 := Aside0.mk A390
              clear A390
              simp only [Option.some.injEq, Prod.mk.injEq] at H
              obtain ⟨rfl, rfl, rfl, rfl, rfl, rfl, rfl⟩ := H
              have hnb40 := NB300_301.out
              have hnc40 := NB301_300.out
              have hnb41 := NB300_305.out
              have hnc41 := NB305_300.out
              have hcz42_0 : wc.cell? ⟨gb300, 0, none⟩ = some (.int .i64 a0_0) := (blk_cell BK300.out 0).trans rfl
              have hcz42_1 : wc.cell? ⟨gb300, 1, none⟩ = some (.int .i64 a0_1) := (blk_cell BK300.out 1).trans rfl
              have hcz42_2 : wc.cell? ⟨gb300, 2, none⟩ = some (.int .i64 a0_2) := (blk_cell BK300.out 2).trans rfl
              have hcz42_3 : wc.cell? ⟨gb300, 3, none⟩ = some (.int .i64 a0_3) := (blk_cell BK300.out 3).trans rfl
              have hcz42_4 : wc.cell? ⟨gb300, 4, none⟩ = some (.int .i64 a0_4) := (blk_cell BK300.out 4).trans rfl
              have hcz42_5 : wc.cell? ⟨gb300, 5, none⟩ = some (.slice A0_5 l0_5.length c0_5) := (blk_cell BK300.out 5).trans rfl
              have hcz42_6 : wc.cell? ⟨gb300, 6, none⟩ = some (.slice A0_6 l0_6.length c0_6) := (blk_cell BK300.out 6).trans rfl
              have hcz42_7 : wc.cell? ⟨gb300, 7, none⟩ = some (.slice A0_7 l0_7.length c0_7) := (blk_cell BK300.out 7).trans rfl
              have hcz42_8 : wc.cell? ⟨gb300, 8, none⟩ = some (.slice A0_8 l0_8.length c0_8) := (blk_cell BK300.out 8).trans rfl
              have hfz42_0 := blk_frozen BK300.out 0
              have hfz42_1 := blk_frozen BK300.out 1
              have hfz42_2 := blk_frozen BK300.out 2
              have hfz42_3 := blk_frozen BK300.out 3
              have hfz42_4 := blk_frozen BK300.out 4
              have hfz42_5 := blk_frozen BK300.out 5
              have hfz42_6 := blk_frozen BK300.out 6
              have hfz42_7 := blk_frozen BK300.out 7
              have hfz42_8 := blk_frozen BK300.out 8
              go_wp2_with (first | ((with_reducible refine gate_callee (f := 16) rfl ?_); refine goesL_ (some 36) rfl rfl Tryd.func16 (by kernel_rfl) rfl #[.agg #[.slice A0_5 l0_5.length c0_5, .slice A0_6 l0_6.length c0_6]] rfl (by (try simp only [List.map_toArray, List.map_cons, List.map_nil]); first | done | rfl | (simp only [List.length_drop, List.length_take]; rfl)) ?_; (with_reducible refine (broadsidekeep_Pred_Pred.calls kj27 _ _ l0_5 _ _ l0_6 t308 _ ?side1 ?side2 ?side3 ?side4 A37.out).mono ?_); (case side1 => repeat (first | exact (Kd.C_below HR0_5.out HB.out) | (with_reducible refine Kd.C_alloc ?_ _) | (with_reducible refine Kd.C_drewN ?_ _) | (with_reducible refine Kd.C_drew ?_))); (case side2 => exact HC0_5.out); (case side3 => repeat (first | exact (Kd.C_below HR0_6.out HB.out) | (with_reducible refine Kd.C_alloc ?_ _) | (with_reducible refine Kd.C_drewN ?_ _) | (with_reducible refine Kd.C_drew ?_))); (case side4 => exact HC0_6.out); rintro e w43 ⟨v309, rfl, ho0, hb⟩; refine ⟨_, rfl, ?_⟩; have n0_ := Aside0.mk (Kd.R_lower ho0 (below_size (by repeat (first | (with_reducible first | exact HB.out | apply below_alloc | apply pw_below_drewN | apply below_drew1 | refine below_set ?_ GE300.out | refine below_set ?_ GE301.out | refine below_set ?_ GE305.out) | exact HB.out)))); have n1_ := Aside0.mk (blk_below (g := gb300) (o := .cells #[.int .i64 a0_0, .int .i64 a0_1, .int .i64 a0_2, .int .i64 a0_3, .int .i64 a0_4, .slice A0_5 l0_5.length c0_5, .slice A0_6 l0_6.length c0_6, .slice A0_7 l0_7.length c0_7, .slice A0_8 l0_8.length c0_8] 53 (0, 0)) (by (with_reducible repeat (first | refine blk_drewN ?_ _ | refine blk_drew ?_ | refine blk_alloc ?_ _)); exact BK300.out) hb); have n2_ := Aside0.mk (blk_below (g := gb301) (o := .cells #[.int .i64 0, .int .i64 0, .int .i64 0, .int .i64 0, .int .i64 0, .slice none 0 0, .slice none 0 0] 50 (0, 0)) (by (with_reducible repeat (first | refine blk_drewN ?_ _ | refine blk_drew ?_ | refine blk_alloc ?_ _)); exact BK301.out) hb); have n3_ := Aside0.mk (blk_below (g := gb305) (o := .cells #[.int .i64 t302, .int .i64 t303, .int .i64 t304, .int .i64 x306003_4, .int .i64 x306004_4, .slice none 0 0, .slice none 0 0] 50 (0, 0)) (by (with_reducible repeat (first | refine blk_drewN ?_ _ | refine blk_drew ?_ | refine blk_alloc ?_ _)); exact BK305.out) hb); have n4_ := Aside0.mk (below_step (by repeat (first | (with_reducible first | exact HB.out | apply below_alloc | apply pw_below_drewN | apply below_drew1 | refine below_set ?_ GE300.out | refine below_set ?_ GE301.out | refine below_set ?_ GE305.out) | exact HB.out)) hb); clear BK300; clear BK301; clear BK305; clear HB; have HO310 := n0_; have BK300 := n1_; have BK301 := n2_; have BK305 := n3_; have HB := n4_; clear n0_ n1_ n2_ n3_ n4_; (try clear hb); (try clear hb2); (try clear hk); (try clear hi); (try clear ho0); obtain ⟨Ao44, co44, eo44⟩ := Kd.R_slice HO310.out; subst eo44; have hnb45 := NB305_301.out; have hnc45 := NB301_305.out; have hcz46_0 : w43.cell? ⟨gb305, 0, none⟩ = some (.int .i64 t302) := (blk_cell BK305.out 0).trans rfl; have hcz46_1 : w43.cell? ⟨gb305, 1, none⟩ = some (.int .i64 t303) := (blk_cell BK305.out 1).trans rfl; have hcz46_2 : w43.cell? ⟨gb305, 2, none⟩ = some (.int .i64 t304) := (blk_cell BK305.out 2).trans rfl; have hcz46_3 : w43.cell? ⟨gb305, 3, none⟩ = some (.int .i64 x306003_4) := (blk_cell BK305.out 3).trans rfl; have hcz46_4 : w43.cell? ⟨gb305, 4, none⟩ = some (.int .i64 x306004_4) := (blk_cell BK305.out 4).trans rfl; have hcz46_5 : w43.cell? ⟨gb305, 5, none⟩ = some (.slice none 0 0) := (blk_cell BK305.out 5).trans rfl; have hcz46_6 : w43.cell? ⟨gb305, 6, none⟩ = some (.slice none 0 0) := (blk_cell BK305.out 6).trans rfl; have hfz46_0 := blk_frozen BK305.out 0; have hfz46_1 := blk_frozen BK305.out 1; have hfz46_2 := blk_frozen BK305.out 2; have hfz46_3 := blk_frozen BK305.out 3; have hfz46_4 := blk_frozen BK305.out 4; have hfz46_5 := blk_frozen BK305.out 5; have hfz46_6 := blk_frozen BK305.out 6; have hcz47_0 : w43.cell? ⟨gb300, 0, none⟩ = some (.int .i64 a0_0) := (blk_cell BK300.out 0).trans rfl; have hcz47_1 : w43.cell? ⟨gb300, 1, none⟩ = some (.int .i64 a0_1) := (blk_cell BK300.out 1).trans rfl; have hcz47_2 : w43.cell? ⟨gb300, 2, none⟩ = some (.int .i64 a0_2) := (blk_cell BK300.out 2).trans rfl; have hcz47_3 : w43.cell? ⟨gb300, 3, none⟩ = some (.int .i64 a0_3) := (blk_cell BK300.out 3).trans rfl; have hcz47_4 : w43.cell? ⟨gb300, 4, none⟩ = some (.int .i64 a0_4) := (blk_cell BK300.out 4).trans rfl; have hcz47_5 : w43.cell? ⟨gb300, 5, none⟩ = some (.slice A0_5 l0_5.length c0_5) := (blk_cell BK300.out 5).trans rfl; have hcz47_6 : w43.cell? ⟨gb300, 6, none⟩ = some (.slice A0_6 l0_6.length c0_6) := (blk_cell BK300.out 6).trans rfl; have hcz47_7 : w43.cell? ⟨gb300, 7, none⟩ = some (.slice A0_7 l0_7.length c0_7) := (blk_cell BK300.out 7).trans rfl; have hcz47_8 : w43.cell? ⟨gb300, 8, none⟩ = some (.slice A0_8 l0_8.length c0_8) := (blk_cell BK300.out 8).trans rfl; have hfz47_0 := blk_frozen BK300.out 0; have hfz47_1 := blk_frozen BK300.out 1; have hfz47_2 := blk_frozen BK300.out 2; have hfz47_3 := blk_frozen BK300.out 3; have hfz47_4 := blk_frozen BK300.out 4; have hfz47_5 := blk_frozen BK300.out 5; have hfz47_6 := blk_frozen BK300.out 6; have hfz47_7 := blk_frozen BK300.out 7; have hfz47_8 := blk_frozen BK300.out 8) | ((with_reducible refine gate_callee (f := 17) rfl ?_); refine goesL_ (some 43) rfl rfl Tryd.func17 (by kernel_rfl) rfl #[.agg #[.slice A0_7 l0_7.length c0_7, .slice A0_8 l0_8.length c0_8]] rfl (by (try simp only [List.map_toArray, List.map_cons, List.map_nil]); first | done | rfl | (simp only [List.length_drop, List.length_take]; rfl)) ?_; (with_reducible refine (broadsidekeep_Tuple_Tuple.calls kj27 _ _ l0_7 _ _ l0_8 t311 _ ?side1 ?side2 ?side3 ?side4 A39.out).mono ?_); (case side1 => exact Kd.C_below HR0_7.out (by repeat (first | (with_reducible first | exact HB.out | apply below_alloc | apply pw_below_drewN | apply below_drew1 | refine below_set ?_ GE300.out | refine below_set ?_ GE301.out | refine below_set ?_ GE305.out) | exact HB.out))); (case side2 => exact HC0_7.out); (case side3 => exact Kd.C_below HR0_8.out (by repeat (first | (with_reducible first | exact HB.out | apply below_alloc | apply pw_below_drewN | apply below_drew1 | refine below_set ?_ GE300.out | refine below_set ?_ GE301.out | refine below_set ?_ GE305.out) | exact HB.out))); (case side4 => exact HC0_8.out); rintro e w48 ⟨v312, rfl, ho0, hb⟩; refine ⟨_, rfl, ?_⟩; have n0_ := Aside0.mk (Kd.R_below (by (with_reducible repeat (first | apply Kd.R_alloc | apply Kd.R_drewN | apply Kd.R_drew)); exact (Kd.R_mono (Kd.R_far (p := ⟨gb305, 5, none⟩) (Kd.R_types HO310.out BK305.out (by decide)) (fun _ hk => hk.2) (.slice Ao44 t308.length co44)) (fun _ h_ => h_.1))) hb); have n1_ := Aside0.mk (Kd.R_lower ho0 (below_size (by repeat (first | (with_reducible first | exact HB.out | apply below_alloc | apply pw_below_drewN | apply below_drew1 | refine below_set ?_ GE300.out | refine below_set ?_ GE301.out | refine below_set ?_ GE305.out) | exact HB.out)))); have n2_ := Aside0.mk (blk_below (g := gb300) (o := .cells #[.int .i64 a0_0, .int .i64 a0_1, .int .i64 a0_2, .int .i64 a0_3, .int .i64 a0_4, .slice A0_5 l0_5.length c0_5, .slice A0_6 l0_6.length c0_6, .slice A0_7 l0_7.length c0_7, .slice A0_8 l0_8.length c0_8] 53 (0, 0)) (by (with_reducible repeat (first | refine blk_drewN ?_ _ | refine blk_drew ?_ | refine blk_alloc ?_ _)); refine blk_far ?_ NB300_305.out _; (with_reducible repeat (first | refine blk_drewN ?_ _ | refine blk_drew ?_ | refine blk_alloc ?_ _)); exact BK300.out) hb); have n3_ := Aside0.mk (blk_below (g := gb301) (o := .cells #[.int .i64 0, .int .i64 0, .int .i64 0, .int .i64 0, .int .i64 0, .slice none 0 0, .slice none 0 0] 50 (0, 0)) (by (with_reducible repeat (first | refine blk_drewN ?_ _ | refine blk_drew ?_ | refine blk_alloc ?_ _)); refine blk_far ?_ NB301_305.out _; (with_reducible repeat (first | refine blk_drewN ?_ _ | refine blk_drew ?_ | refine blk_alloc ?_ _)); exact BK301.out) hb); have n4_ := Aside0.mk (blk_below (g := gb305) (o := .cells #[.int .i64 t302, .int .i64 t303, .int .i64 t304, .int .i64 x306003_4, .int .i64 x306004_4, .slice Ao44 t308.length co44, .slice none 0 0] 50 (0, 0)) (by (with_reducible repeat (first | refine blk_drewN ?_ _ | refine blk_drew ?_ | refine blk_alloc ?_ _)); refine blk_put (cs := #[.int .i64 t302, .int .i64 t303, .int .i64 t304, .int .i64 x306003_4, .int .i64 x306004_4, .slice none 0 0, .slice none 0 0]) ?_ 5 _ rfl; (with_reducible repeat (first | refine blk_drewN ?_ _ | refine blk_drew ?_ | refine blk_alloc ?_ _)); exact BK305.out) hb); have n5_ := Aside0.mk (below_step (by repeat (first | (with_reducible first | exact HB.out | apply below_alloc | apply pw_below_drewN | apply below_drew1 | refine below_set ?_ GE300.out | refine below_set ?_ GE301.out | refine below_set ?_ GE305.out) | exact HB.out)) hb); clear HO310; clear BK300; clear BK301; clear BK305; clear HB; have HO310 := n0_; have HO313 := n1_; have BK300 := n2_; have BK301 := n3_; have BK305 := n4_; have HB := n5_; clear n0_ n1_ n2_ n3_ n4_ n5_; (try clear hb); (try clear hb2); (try clear hk); (try clear hi); (try clear ho0); obtain ⟨Ao49, co49, eo49⟩ := Kd.R_slice HO313.out; subst eo49; have hcz50_0 : w48.cell? ⟨gb305, 0, none⟩ = some (.int .i64 t302) := (blk_cell BK305.out 0).trans rfl; have hcz50_1 : w48.cell? ⟨gb305, 1, none⟩ = some (.int .i64 t303) := (blk_cell BK305.out 1).trans rfl; have hcz50_2 : w48.cell? ⟨gb305, 2, none⟩ = some (.int .i64 t304) := (blk_cell BK305.out 2).trans rfl; have hcz50_3 : w48.cell? ⟨gb305, 3, none⟩ = some (.int .i64 x306003_4) := (blk_cell BK305.out 3).trans rfl; have hcz50_4 : w48.cell? ⟨gb305, 4, none⟩ = some (.int .i64 x306004_4) := (blk_cell BK305.out 4).trans rfl; have hcz50_5 : w48.cell? ⟨gb305, 5, none⟩ = some (.slice Ao44 t308.length co44) := (blk_cell BK305.out 5).trans rfl; have hcz50_6 : w48.cell? ⟨gb305, 6, none⟩ = some (.slice none 0 0) := (blk_cell BK305.out 6).trans rfl; have hfz50_0 := blk_frozen BK305.out 0; have hfz50_1 := blk_frozen BK305.out 1; have hfz50_2 := blk_frozen BK305.out 2; have hfz50_3 := blk_frozen BK305.out 3; have hfz50_4 := blk_frozen BK305.out 4; have hfz50_5 := blk_frozen BK305.out 5; have hfz50_6 := blk_frozen BK305.out 6; have hcz51_0 : w48.cell? ⟨gb301, 0, none⟩ = some (.int .i64 0) := (blk_cell BK301.out 0).trans rfl; have hcz51_1 : w48.cell? ⟨gb301, 1, none⟩ = some (.int .i64 0) := (blk_cell BK301.out 1).trans rfl; have hcz51_2 : w48.cell? ⟨gb301, 2, none⟩ = some (.int .i64 0) := (blk_cell BK301.out 2).trans rfl; have hcz51_3 : w48.cell? ⟨gb301, 3, none⟩ = some (.int .i64 0) := (blk_cell BK301.out 3).trans rfl; have hcz51_4 : w48.cell? ⟨gb301, 4, none⟩ = some (.int .i64 0) := (blk_cell BK301.out 4).trans rfl; have hcz51_5 : w48.cell? ⟨gb301, 5, none⟩ = some (.slice none 0 0) := (blk_cell BK301.out 5).trans rfl; have hcz51_6 : w48.cell? ⟨gb301, 6, none⟩ = some (.slice none 0 0) := (blk_cell BK301.out 6).trans rfl; have hfz51_0 := blk_frozen BK301.out 0; have hfz51_1 := blk_frozen BK301.out 1; have hfz51_2 := blk_frozen BK301.out 2; have hfz51_3 := blk_frozen BK301.out 3; have hfz51_4 := blk_frozen BK301.out 4; have hfz51_5 := blk_frozen BK301.out 5; have hfz51_6 := blk_frozen BK301.out 6))
              refine bodyPost_ret (results_cell_row rfl _ _ gb301 50 #[.int .i64 t302, .int .i64 t303, .int .i64 t304, .int .i64 x306003_4, .int .i64 x306004_4, .slice Ao44 t308.length co44, .slice Ao49 t311.length co49] (0, 0) _ rfl (by (with_reducible repeat (first | refine blk_drewN ?_ _ | refine blk_drew ?_ | refine blk_alloc ?_ _)); refine blk_put (cs := #[.int .i64 t302, .int .i64 t303, .int .i64 t304, .int .i64 x306003_4, .int .i64 x306004_4, .slice Ao44 t308.length co44, .slice none 0 0]) ?_ 6 _ rfl; (with_reducible repeat (first | refine blk_drewN ?_ _ | refine blk_drew ?_ | refine blk_alloc ?_ _)); refine blk_put (cs := #[.int .i64 t302, .int .i64 t303, .int .i64 t304, .int .i64 x306003_4, .int .i64 x306004_4, .slice none 0 0, .slice none 0 0]) ?_ 5 _ rfl; (with_reducible repeat (first | refine blk_drewN ?_ _ | refine blk_drew ?_ | refine blk_alloc ?_ _)); refine blk_put (cs := #[.int .i64 t302, .int .i64 t303, .int .i64 t304, .int .i64 x306003_4, .int .i64 0, .slice none 0 0, .slice none 0 0]) ?_ 4 _ rfl; (with_reducible repeat (first | refine blk_drewN ?_ _ | refine blk_drew ?_ | refine blk_alloc ?_ _)); refine blk_put (cs := #[.int .i64 t302, .int .i64 t303, .int .i64 t304, .int .i64 0, .int .i64 0, .slice none 0 0, .slice none 0 0]) ?_ 3 _ rfl; (with_reducible repeat (first | refine blk_drewN ?_ _ | refine blk_drew ?_ | refine blk_alloc ?_ _)); refine blk_put (cs := #[.int .i64 t302, .int .i64 t303, .int .i64 0, .int .i64 0, .int .i64 0, .slice none 0 0, .slice none 0 0]) ?_ 2 _ rfl; (with_reducible repeat (first | refine blk_drewN ?_ _ | refine blk_drew ?_ | refine blk_alloc ?_ _)); refine blk_put (cs := #[.int .i64 t302, .int .i64 0, .int .i64 0, .int .i64 0, .int .i64 0, .slice none 0 0, .slice none 0 0]) ?_ 1 _ rfl; (with_reducible repeat (first | refine blk_drewN ?_ _ | refine blk_drew ?_ | refine blk_alloc ?_ _)); refine blk_put (cs := #[.int .i64 0, .int .i64 0, .int .i64 0, .int .i64 0, .int .i64 0, .slice none 0 0, .slice none 0 0]) ?_ 0 _ rfl; (with_reducible repeat (first | refine blk_drewN ?_ _ | refine blk_drew ?_ | refine blk_alloc ?_ _)); refine blk_far ?_ NB301_305.out _; (with_reducible repeat (first | refine blk_drewN ?_ _ | refine blk_drew ?_ | refine blk_alloc ?_ _)); exact BK301.out) Tryd.underlying50 rfl (by kernel_rfl)) rfl ?_
              exact ⟨_, _, by first | rfl | (simp [errW_none, errW_some] <;> rfl) | (simp [*, errW_none, errW_some] <;> rfl), by (with_reducible repeat (first | apply Kd.R_alloc | apply Kd.R_drewN | apply Kd.R_drew)); exact Kd.R_mono (Kd.R_far (p := ⟨gb301, 6, none⟩) (Kd.R_far (p := ⟨gb301, 5, none⟩) (Kd.R_far (p := ⟨gb301, 4, none⟩) (Kd.R_far (p := ⟨gb301, 3, none⟩) (Kd.R_far (p := ⟨gb301, 2, none⟩) (Kd.R_far (p := ⟨gb301, 1, none⟩) (Kd.R_far (p := ⟨gb301, 0, none⟩) (Kd.R_far (p := ⟨gb305, 6, none⟩) (Kd.R_types (Kd.R_types HO310.out BK305.out (by decide)) BK301.out (by decide)) (fun _ hk => hk.1.2) (.slice Ao49 t311.length co49)) (fun _ hk => hk.2) (.int .i64 t302)) (fun _ hk => hk.2) (.int .i64 t303)) (fun _ hk => hk.2) (.int .i64 t304)) (fun _ hk => hk.2) (.int .i64 x306003_4)) (fun _ hk => hk.2) (.int .i64 x306004_4)) (fun _ hk => hk.2) (.slice Ao44 t308.length co44)) (fun _ hk => hk.2) (.slice Ao49 t311.length co49)) (fun _ hk => trivial), by (with_reducible repeat (first | apply Kd.R_alloc | apply Kd.R_drewN | apply Kd.R_drew)); exact Kd.R_mono (Kd.R_far (p := ⟨gb301, 6, none⟩) (Kd.R_far (p := ⟨gb301, 5, none⟩) (Kd.R_far (p := ⟨gb301, 4, none⟩) (Kd.R_far (p := ⟨gb301, 3, none⟩) (Kd.R_far (p := ⟨gb301, 2, none⟩) (Kd.R_far (p := ⟨gb301, 1, none⟩) (Kd.R_far (p := ⟨gb301, 0, none⟩) (Kd.R_far (p := ⟨gb305, 6, none⟩) (Kd.R_types (Kd.R_types HO313.out BK305.out (by decide)) BK301.out (by decide)) (fun _ hk => hk.1.2) (.slice Ao49 t311.length co49)) (fun _ hk => hk.2) (.int .i64 t302)) (fun _ hk => hk.2) (.int .i64 t303)) (fun _ hk => hk.2) (.int .i64 t304)) (fun _ hk => hk.2) (.int .i64 x306003_4)) (fun _ hk => hk.2) (.int .i64 x306004_4)) (fun _ hk => hk.2) (.slice Ao44 t308.length co44)) (fun _ hk => hk.2) (.slice Ao49 t311.length co49)) (fun _ hk => trivial), by repeat (first | (with_reducible first | exact HB.out | apply below_alloc | apply pw_below_drewN | apply below_drew1 | refine below_set ?_ GE300.out | refine below_set ?_ GE301.out | refine below_set ?_ GE305.out) | exact HB.out)⟩
            · rw [if_neg c38] at H
              have c38b0 : (t302 == 5) = false := beq_eq_false_iff_ne.mpr c38
              have c38b1 : (t302 != 5) = true := bne_iff_ne.mpr c38
              simp only [Option.some.injEq, Prod.mk.injEq] at H
              obtain ⟨rfl, rfl, rfl, rfl, rfl, rfl, rfl⟩ := H
              have hnb52 := NB300_301.out
              have hnc52 := NB301_300.out
              have hnb53 := NB300_305.out
              have hnc53 := NB305_300.out
              have hcz54_0 : wc.cell? ⟨gb300, 0, none⟩ = some (.int .i64 a0_0) := (blk_cell BK300.out 0).trans rfl
              have hcz54_1 : wc.cell? ⟨gb300, 1, none⟩ = some (.int .i64 a0_1) := (blk_cell BK300.out 1).trans rfl
              have hcz54_2 : wc.cell? ⟨gb300, 2, none⟩ = some (.int .i64 a0_2) := (blk_cell BK300.out 2).trans rfl
              have hcz54_3 : wc.cell? ⟨gb300, 3, none⟩ = some (.int .i64 a0_3) := (blk_cell BK300.out 3).trans rfl
              have hcz54_4 : wc.cell? ⟨gb300, 4, none⟩ = some (.int .i64 a0_4) := (blk_cell BK300.out 4).trans rfl
              have hcz54_5 : wc.cell? ⟨gb300, 5, none⟩ = some (.slice A0_5 l0_5.length c0_5) := (blk_cell BK300.out 5).trans rfl
              have hcz54_6 : wc.cell? ⟨gb300, 6, none⟩ = some (.slice A0_6 l0_6.length c0_6) := (blk_cell BK300.out 6).trans rfl
              have hcz54_7 : wc.cell? ⟨gb300, 7, none⟩ = some (.slice A0_7 l0_7.length c0_7) := (blk_cell BK300.out 7).trans rfl
              have hcz54_8 : wc.cell? ⟨gb300, 8, none⟩ = some (.slice A0_8 l0_8.length c0_8) := (blk_cell BK300.out 8).trans rfl
              have hfz54_0 := blk_frozen BK300.out 0
              have hfz54_1 := blk_frozen BK300.out 1
              have hfz54_2 := blk_frozen BK300.out 2
              have hfz54_3 := blk_frozen BK300.out 3
              have hfz54_4 := blk_frozen BK300.out 4
              have hfz54_5 := blk_frozen BK300.out 5
              have hfz54_6 := blk_frozen BK300.out 6
              have hfz54_7 := blk_frozen BK300.out 7
              have hfz54_8 := blk_frozen BK300.out 8
              go_wp2_with (first | ((with_reducible refine gate_callee (f := 16) rfl ?_); refine goesL_ (some 36) rfl rfl Tryd.func16 (by kernel_rfl) rfl #[.agg #[.slice A0_5 l0_5.length c0_5, .slice A0_6 l0_6.length c0_6]] rfl (by (try simp only [List.map_toArray, List.map_cons, List.map_nil]); first | done | rfl | (simp only [List.length_drop, List.length_take]; rfl)) ?_; (with_reducible refine (broadsidekeep_Pred_Pred.calls kj27 _ _ l0_5 _ _ l0_6 t308 _ ?side1 ?side2 ?side3 ?side4 A37.out).mono ?_); (case side1 => repeat (first | exact (Kd.C_below HR0_5.out HB.out) | (with_reducible refine Kd.C_alloc ?_ _) | (with_reducible refine Kd.C_drewN ?_ _) | (with_reducible refine Kd.C_drew ?_))); (case side2 => exact HC0_5.out); (case side3 => repeat (first | exact (Kd.C_below HR0_6.out HB.out) | (with_reducible refine Kd.C_alloc ?_ _) | (with_reducible refine Kd.C_drewN ?_ _) | (with_reducible refine Kd.C_drew ?_))); (case side4 => exact HC0_6.out); rintro e w55 ⟨v309, rfl, ho0, hb⟩; refine ⟨_, rfl, ?_⟩; have n0_ := Aside0.mk (Kd.R_lower ho0 (below_size (by repeat (first | (with_reducible first | exact HB.out | apply below_alloc | apply pw_below_drewN | apply below_drew1 | refine below_set ?_ GE300.out | refine below_set ?_ GE301.out | refine below_set ?_ GE305.out) | exact HB.out)))); have n1_ := Aside0.mk (blk_below (g := gb300) (o := .cells #[.int .i64 a0_0, .int .i64 a0_1, .int .i64 a0_2, .int .i64 a0_3, .int .i64 a0_4, .slice A0_5 l0_5.length c0_5, .slice A0_6 l0_6.length c0_6, .slice A0_7 l0_7.length c0_7, .slice A0_8 l0_8.length c0_8] 53 (0, 0)) (by (with_reducible repeat (first | refine blk_drewN ?_ _ | refine blk_drew ?_ | refine blk_alloc ?_ _)); exact BK300.out) hb); have n2_ := Aside0.mk (blk_below (g := gb301) (o := .cells #[.int .i64 0, .int .i64 0, .int .i64 0, .int .i64 0, .int .i64 0, .slice none 0 0, .slice none 0 0] 50 (0, 0)) (by (with_reducible repeat (first | refine blk_drewN ?_ _ | refine blk_drew ?_ | refine blk_alloc ?_ _)); exact BK301.out) hb); have n3_ := Aside0.mk (blk_below (g := gb305) (o := .cells #[.int .i64 t302, .int .i64 t303, .int .i64 t304, .int .i64 x306003_4, .int .i64 x306004_4, .slice none 0 0, .slice none 0 0] 50 (0, 0)) (by (with_reducible repeat (first | refine blk_drewN ?_ _ | refine blk_drew ?_ | refine blk_alloc ?_ _)); exact BK305.out) hb); have n4_ := Aside0.mk (below_step (by repeat (first | (with_reducible first | exact HB.out | apply below_alloc | apply pw_below_drewN | apply below_drew1 | refine below_set ?_ GE300.out | refine below_set ?_ GE301.out | refine below_set ?_ GE305.out) | exact HB.out)) hb); clear BK300; clear BK301; clear BK305; clear HB; have HO310 := n0_; have BK300 := n1_; have BK301 := n2_; have BK305 := n3_; have HB := n4_; clear n0_ n1_ n2_ n3_ n4_; (try clear hb); (try clear hb2); (try clear hk); (try clear hi); (try clear ho0); obtain ⟨Ao56, co56, eo56⟩ := Kd.R_slice HO310.out; subst eo56; have hnb57 := NB305_301.out; have hnc57 := NB301_305.out; have hcz58_0 : w55.cell? ⟨gb305, 0, none⟩ = some (.int .i64 t302) := (blk_cell BK305.out 0).trans rfl; have hcz58_1 : w55.cell? ⟨gb305, 1, none⟩ = some (.int .i64 t303) := (blk_cell BK305.out 1).trans rfl; have hcz58_2 : w55.cell? ⟨gb305, 2, none⟩ = some (.int .i64 t304) := (blk_cell BK305.out 2).trans rfl; have hcz58_3 : w55.cell? ⟨gb305, 3, none⟩ = some (.int .i64 x306003_4) := (blk_cell BK305.out 3).trans rfl; have hcz58_4 : w55.cell? ⟨gb305, 4, none⟩ = some (.int .i64 x306004_4) := (blk_cell BK305.out 4).trans rfl; have hcz58_5 : w55.cell? ⟨gb305, 5, none⟩ = some (.slice none 0 0) := (blk_cell BK305.out 5).trans rfl; have hcz58_6 : w55.cell? ⟨gb305, 6, none⟩ = some (.slice none 0 0) := (blk_cell BK305.out 6).trans rfl; have hfz58_0 := blk_frozen BK305.out 0; have hfz58_1 := blk_frozen BK305.out 1; have hfz58_2 := blk_frozen BK305.out 2; have hfz58_3 := blk_frozen BK305.out 3; have hfz58_4 := blk_frozen BK305.out 4; have hfz58_5 := blk_frozen BK305.out 5; have hfz58_6 := blk_frozen BK305.out 6; have hcz59_0 : w55.cell? ⟨gb301, 0, none⟩ = some (.int .i64 0) := (blk_cell BK301.out 0).trans rfl; have hcz59_1 : w55.cell? ⟨gb301, 1, none⟩ = some (.int .i64 0) := (blk_cell BK301.out 1).trans rfl; have hcz59_2 : w55.cell? ⟨gb301, 2, none⟩ = some (.int .i64 0) := (blk_cell BK301.out 2).trans rfl; have hcz59_3 : w55.cell? ⟨gb301, 3, none⟩ = some (.int .i64 0) := (blk_cell BK301.out 3).trans rfl; have hcz59_4 : w55.cell? ⟨gb301, 4, none⟩ = some (.int .i64 0) := (blk_cell BK301.out 4).trans rfl; have hcz59_5 : w55.cell? ⟨gb301, 5, none⟩ = some (.slice none 0 0) := (blk_cell BK301.out 5).trans rfl; have hcz59_6 : w55.cell? ⟨gb301, 6, none⟩ = some (.slice none 0 0) := (blk_cell BK301.out 6).trans rfl; have hfz59_0 := blk_frozen BK301.out 0; have hfz59_1 := blk_frozen BK301.out 1; have hfz59_2 := blk_frozen BK301.out 2; have hfz59_3 := blk_frozen BK301.out 3; have hfz59_4 := blk_frozen BK301.out 4; have hfz59_5 := blk_frozen BK301.out 5; have hfz59_6 := blk_frozen BK301.out 6))
              refine bodyPost_ret (results_cell_row rfl _ _ gb301 50 #[.int .i64 t302, .int .i64 t303, .int .i64 t304, .int .i64 x306003_4, .int .i64 x306004_4, .slice Ao56 t308.length co56, .slice none 0 0] (0, 0) _ rfl (by (with_reducible repeat (first | refine blk_drewN ?_ _ | refine blk_drew ?_ | refine blk_alloc ?_ _)); refine blk_put (cs := #[.int .i64 t302, .int .i64 t303, .int .i64 t304, .int .i64 x306003_4, .int .i64 x306004_4, .slice Ao56 t308.length co56, .slice none 0 0]) ?_ 6 _ rfl; (with_reducible repeat (first | refine blk_drewN ?_ _ | refine blk_drew ?_ | refine blk_alloc ?_ _)); refine blk_put (cs := #[.int .i64 t302, .int .i64 t303, .int .i64 t304, .int .i64 x306003_4, .int .i64 x306004_4, .slice none 0 0, .slice none 0 0]) ?_ 5 _ rfl; (with_reducible repeat (first | refine blk_drewN ?_ _ | refine blk_drew ?_ | refine blk_alloc ?_ _)); refine blk_put (cs := #[.int .i64 t302, .int .i64 t303, .int .i64 t304, .int .i64 x306003_4, .int .i64 0, .slice none 0 0, .slice none 0 0]) ?_ 4 _ rfl; (with_reducible repeat (first | refine blk_drewN ?_ _ | refine blk_drew ?_ | refine blk_alloc ?_ _)); refine blk_put (cs := #[.int .i64 t302, .int .i64 t303, .int .i64 t304, .int .i64 0, .int .i64 0, .slice none 0 0, .slice none 0 0]) ?_ 3 _ rfl; (with_reducible repeat (first | refine blk_drewN ?_ _ | refine blk_drew ?_ | refine blk_alloc ?_ _)); refine blk_put (cs := #[.int .i64 t302, .int .i64 t303, .int .i64 0, .int .i64 0, .int .i64 0, .slice none 0 0, .slice none 0 0]) ?_ 2 _ rfl; (with_reducible repeat (first | refine blk_drewN ?_ _ | refine blk_drew ?_ | refine blk_alloc ?_ _)); refine blk_put (cs := #[.int .i64 t302, .int .i64 0, .int .i64 0, .int .i64 0, .int .i64 0, .slice none 0 0, .slice none 0 0]) ?_ 1 _ rfl; (with_reducible repeat (first | refine blk_drewN ?_ _ | refine blk_drew ?_ | refine blk_alloc ?_ _)); refine blk_put (cs := #[.int .i64 0, .int .i64 0, .int .i64 0, .int .i64 0, .int .i64 0, .slice none 0 0, .slice none 0 0]) ?_ 0 _ rfl; (with_reducible repeat (first | refine blk_drewN ?_ _ | refine blk_drew ?_ | refine blk_alloc ?_ _)); refine blk_far ?_ NB301_305.out _; (with_reducible repeat (first | refine blk_drewN ?_ _ | refine blk_drew ?_ | refine blk_alloc ?_ _)); exact BK301.out) Tryd.underlying50 rfl (by kernel_rfl)) rfl ?_
              exact ⟨_, _, by first | rfl | (simp [errW_none, errW_some] <;> rfl) | (simp [*, errW_none, errW_some] <;> rfl), by (with_reducible repeat (first | apply Kd.R_alloc | apply Kd.R_drewN | apply Kd.R_drew)); exact Kd.R_mono (Kd.R_far (p := ⟨gb301, 6, none⟩) (Kd.R_far (p := ⟨gb301, 5, none⟩) (Kd.R_far (p := ⟨gb301, 4, none⟩) (Kd.R_far (p := ⟨gb301, 3, none⟩) (Kd.R_far (p := ⟨gb301, 2, none⟩) (Kd.R_far (p := ⟨gb301, 1, none⟩) (Kd.R_far (p := ⟨gb301, 0, none⟩) (Kd.R_far (p := ⟨gb305, 5, none⟩) (Kd.R_types (Kd.R_types HO310.out BK305.out (by decide)) BK301.out (by decide)) (fun _ hk => hk.1.2) (.slice Ao56 t308.length co56)) (fun _ hk => hk.2) (.int .i64 t302)) (fun _ hk => hk.2) (.int .i64 t303)) (fun _ hk => hk.2) (.int .i64 t304)) (fun _ hk => hk.2) (.int .i64 x306003_4)) (fun _ hk => hk.2) (.int .i64 x306004_4)) (fun _ hk => hk.2) (.slice Ao56 t308.length co56)) (fun _ hk => hk.2) (.slice none 0 0)) (fun _ hk => trivial), by first | exact Kd.R_nil _ _ _ _ _ | exact Kd.N_nil _ _ _ _ _ | exact Kd.V_nil _ _ _ _ _ | exact Kd.Q_nil _ _ _ _ _ | exact Kd.S_nil _ _ _ _ _, by repeat (first | (with_reducible first | exact HB.out | apply below_alloc | apply pw_below_drewN | apply below_drew1 | refine below_set ?_ GE300.out | refine below_set ?_ GE301.out | refine below_set ?_ GE305.out) | exact HB.out)⟩
          · replace c36 := Bool.eq_false_iff.mpr c36
            subst c36
            have H1 : (if t302 = 5 then ((broadsidekeep_Tuple_Tuple.f kj27 l0_7 l0_8).bind fun t314 => (some (t302, t303, t304, x306003_4, x306004_4, ([] : List (S44)), t314))) else (some (t302, t303, t304, x306003_4, x306004_4, ([] : List (S44)), ([] : List (S59))))) = some (r1, r2, r3, r4, r5, r6, r7) := by rw [if_neg (show ¬ (false = true) by decide)] at H; exact H
            clear H
            have H := H1
            clear H1
            by_cases c60 : t302 = 5
            · rw [if_pos c60] at H
              have c60b0 : (t302 == 5) = true := beq_iff_eq.mpr c60
              have c60b1 : (t302 != 5) = false := bne_eq_false_iff_eq.mpr c60
              clear c60
              replace H := Option.bind_eq_some_iff.mp H
              obtain ⟨t314, A610, H⟩ := H
              replace H : (some (t302, t303, t304, x306003_4, x306004_4, ([] : List (S44)), t314)) = some (r1, r2, r3, r4, r5, r6, r7) := H
              have A61 := Aside0.mk A610
              clear A610
              simp only [Option.some.injEq, Prod.mk.injEq] at H
              obtain ⟨rfl, rfl, rfl, rfl, rfl, rfl, rfl⟩ := H
              have hnb62 := NB305_300.out
              have hnc62 := NB300_305.out
              have hnb63 := NB305_301.out
              have hnc63 := NB301_305.out
              have hcz64_0 : wc.cell? ⟨gb305, 0, none⟩ = some (.int .i64 t302) := (blk_cell BK305.out 0).trans rfl
              have hcz64_1 : wc.cell? ⟨gb305, 1, none⟩ = some (.int .i64 t303) := (blk_cell BK305.out 1).trans rfl
              have hcz64_2 : wc.cell? ⟨gb305, 2, none⟩ = some (.int .i64 t304) := (blk_cell BK305.out 2).trans rfl
              have hcz64_3 : wc.cell? ⟨gb305, 3, none⟩ = some (.int .i64 x306003_4) := (blk_cell BK305.out 3).trans rfl
              have hcz64_4 : wc.cell? ⟨gb305, 4, none⟩ = some (.int .i64 x306004_4) := (blk_cell BK305.out 4).trans rfl
              have hcz64_5 : wc.cell? ⟨gb305, 5, none⟩ = some (.slice none 0 0) := (blk_cell BK305.out 5).trans rfl
              have hcz64_6 : wc.cell? ⟨gb305, 6, none⟩ = some (.slice none 0 0) := (blk_cell BK305.out 6).trans rfl
              have hfz64_0 := blk_frozen BK305.out 0
              have hfz64_1 := blk_frozen BK305.out 1
              have hfz64_2 := blk_frozen BK305.out 2
              have hfz64_3 := blk_frozen BK305.out 3
              have hfz64_4 := blk_frozen BK305.out 4
              have hfz64_5 := blk_frozen BK305.out 5
              have hfz64_6 := blk_frozen BK305.out 6
              have hnb65 := NB300_301.out
              have hnc65 := NB301_300.out
              have hcz66_0 : wc.cell? ⟨gb300, 0, none⟩ = some (.int .i64 a0_0) := (blk_cell BK300.out 0).trans rfl
              have hcz66_1 : wc.cell? ⟨gb300, 1, none⟩ = some (.int .i64 a0_1) := (blk_cell BK300.out 1).trans rfl
              have hcz66_2 : wc.cell? ⟨gb300, 2, none⟩ = some (.int .i64 a0_2) := (blk_cell BK300.out 2).trans rfl
              have hcz66_3 : wc.cell? ⟨gb300, 3, none⟩ = some (.int .i64 a0_3) := (blk_cell BK300.out 3).trans rfl
              have hcz66_4 : wc.cell? ⟨gb300, 4, none⟩ = some (.int .i64 a0_4) := (blk_cell BK300.out 4).trans rfl
              have hcz66_5 : wc.cell? ⟨gb300, 5, none⟩ = some (.slice A0_5 l0_5.length c0_5) := (blk_cell BK300.out 5).trans rfl
              have hcz66_6 : wc.cell? ⟨gb300, 6, none⟩ = some (.slice A0_6 l0_6.length c0_6) := (blk_cell BK300.out 6).trans rfl
              have hcz66_7 : wc.cell? ⟨gb300, 7, none⟩ = some (.slice A0_7 l0_7.length c0_7) := (blk_cell BK300.out 7).trans rfl
              have hcz66_8 : wc.cell? ⟨gb300, 8, none⟩ = some (.slice A0_8 l0_8.length c0_8) := (blk_cell BK300.out 8).trans rfl
              have hfz66_0 := blk_frozen BK300.out 0
              have hfz66_1 := blk_frozen BK300.out 1
              have hfz66_2 := blk_frozen BK300.out 2
              have hfz66_3 := blk_frozen BK300.out 3
              have hfz66_4 := blk_frozen BK300.out 4
              have hfz66_5 := blk_frozen BK300.out 5
              have hfz66_6 := blk_frozen BK300.out 6
              have hfz66_7 := blk_frozen BK300.out 7
              have hfz66_8 := blk_frozen BK300.out 8
              go_wp2_with (first | ((with_reducible refine gate_callee (f := 17) rfl ?_); refine goesL_ (some 43) rfl rfl Tryd.func17 (by kernel_rfl) rfl #[.agg #[.slice A0_7 l0_7.length c0_7, .slice A0_8 l0_8.length c0_8]] rfl (by (try simp only [List.map_toArray, List.map_cons, List.map_nil]); first | done | rfl | (simp only [List.length_drop, List.length_take]; rfl)) ?_; (with_reducible refine (broadsidekeep_Tuple_Tuple.calls kj27 _ _ l0_7 _ _ l0_8 t314 _ ?side1 ?side2 ?side3 ?side4 A61.out).mono ?_); (case side1 => repeat (first | exact (Kd.C_below HR0_7.out HB.out) | (with_reducible refine Kd.C_alloc ?_ _) | (with_reducible refine Kd.C_drewN ?_ _) | (with_reducible refine Kd.C_drew ?_))); (case side2 => exact HC0_7.out); (case side3 => repeat (first | exact (Kd.C_below HR0_8.out HB.out) | (with_reducible refine Kd.C_alloc ?_ _) | (with_reducible refine Kd.C_drewN ?_ _) | (with_reducible refine Kd.C_drew ?_))); (case side4 => exact HC0_8.out); rintro e w67 ⟨v315, rfl, ho0, hb⟩; refine ⟨_, rfl, ?_⟩; have n0_ := Aside0.mk (Kd.R_lower ho0 (below_size (by repeat (first | (with_reducible first | exact HB.out | apply below_alloc | apply pw_below_drewN | apply below_drew1 | refine below_set ?_ GE300.out | refine below_set ?_ GE301.out | refine below_set ?_ GE305.out) | exact HB.out)))); have n1_ := Aside0.mk (blk_below (g := gb300) (o := .cells #[.int .i64 a0_0, .int .i64 a0_1, .int .i64 a0_2, .int .i64 a0_3, .int .i64 a0_4, .slice A0_5 l0_5.length c0_5, .slice A0_6 l0_6.length c0_6, .slice A0_7 l0_7.length c0_7, .slice A0_8 l0_8.length c0_8] 53 (0, 0)) (by (with_reducible repeat (first | refine blk_drewN ?_ _ | refine blk_drew ?_ | refine blk_alloc ?_ _)); exact BK300.out) hb); have n2_ := Aside0.mk (blk_below (g := gb301) (o := .cells #[.int .i64 0, .int .i64 0, .int .i64 0, .int .i64 0, .int .i64 0, .slice none 0 0, .slice none 0 0] 50 (0, 0)) (by (with_reducible repeat (first | refine blk_drewN ?_ _ | refine blk_drew ?_ | refine blk_alloc ?_ _)); exact BK301.out) hb); have n3_ := Aside0.mk (blk_below (g := gb305) (o := .cells #[.int .i64 t302, .int .i64 t303, .int .i64 t304, .int .i64 x306003_4, .int .i64 x306004_4, .slice none 0 0, .slice none 0 0] 50 (0, 0)) (by (with_reducible repeat (first | refine blk_drewN ?_ _ | refine blk_drew ?_ | refine blk_alloc ?_ _)); exact BK305.out) hb); have n4_ := Aside0.mk (below_step (by repeat (first | (with_reducible first | exact HB.out | apply below_alloc | apply pw_below_drewN | apply below_drew1 | refine below_set ?_ GE300.out | refine below_set ?_ GE301.out | refine below_set ?_ GE305.out) | exact HB.out)) hb); clear BK300; clear BK301; clear BK305; clear HB; have HO316 := n0_; have BK300 := n1_; have BK301 := n2_; have BK305 := n3_; have HB := n4_; clear n0_ n1_ n2_ n3_ n4_; (try clear hb); (try clear hb2); (try clear hk); (try clear hi); (try clear ho0); obtain ⟨Ao68, co68, eo68⟩ := Kd.R_slice HO316.out; subst eo68; have hcz69_0 : w67.cell? ⟨gb305, 0, none⟩ = some (.int .i64 t302) := (blk_cell BK305.out 0).trans rfl; have hcz69_1 : w67.cell? ⟨gb305, 1, none⟩ = some (.int .i64 t303) := (blk_cell BK305.out 1).trans rfl; have hcz69_2 : w67.cell? ⟨gb305, 2, none⟩ = some (.int .i64 t304) := (blk_cell BK305.out 2).trans rfl; have hcz69_3 : w67.cell? ⟨gb305, 3, none⟩ = some (.int .i64 x306003_4) := (blk_cell BK305.out 3).trans rfl; have hcz69_4 : w67.cell? ⟨gb305, 4, none⟩ = some (.int .i64 x306004_4) := (blk_cell BK305.out 4).trans rfl; have hcz69_5 : w67.cell? ⟨gb305, 5, none⟩ = some (.slice none 0 0) := (blk_cell BK305.out 5).trans rfl; have hcz69_6 : w67.cell? ⟨gb305, 6, none⟩ = some (.slice none 0 0) := (blk_cell BK305.out 6).trans rfl; have hfz69_0 := blk_frozen BK305.out 0; have hfz69_1 := blk_frozen BK305.out 1; have hfz69_2 := blk_frozen BK305.out 2; have hfz69_3 := blk_frozen BK305.out 3; have hfz69_4 := blk_frozen BK305.out 4; have hfz69_5 := blk_frozen BK305.out 5; have hfz69_6 := blk_frozen BK305.out 6; have hcz70_0 : w67.cell? ⟨gb301, 0, none⟩ = some (.int .i64 0) := (blk_cell BK301.out 0).trans rfl; have hcz70_1 : w67.cell? ⟨gb301, 1, none⟩ = some (.int .i64 0) := (blk_cell BK301.out 1).trans rfl; have hcz70_2 : w67.cell? ⟨gb301, 2, none⟩ = some (.int .i64 0) := (blk_cell BK301.out 2).trans rfl; have hcz70_3 : w67.cell? ⟨gb301, 3, none⟩ = some (.int .i64 0) := (blk_cell BK301.out 3).trans rfl; have hcz70_4 : w67.cell? ⟨gb301, 4, none⟩ = some (.int .i64 0) := (blk_cell BK301.out 4).trans rfl; have hcz70_5 : w67.cell? ⟨gb301, 5, none⟩ = some (.slice none 0 0) := (blk_cell BK301.out 5).trans rfl; have hcz70_6 : w67.cell? ⟨gb301, 6, none⟩ = some (.slice none 0 0) := (blk_cell BK301.out 6).trans rfl; have hfz70_0 := blk_frozen BK301.out 0; have hfz70_1 := blk_frozen BK301.out 1; have hfz70_2 := blk_frozen BK301.out 2; have hfz70_3 := blk_frozen BK301.out 3; have hfz70_4 := blk_frozen BK301.out 4; have hfz70_5 := blk_frozen BK301.out 5; have hfz70_6 := blk_frozen BK301.out 6))
              refine bodyPost_ret (results_cell_row rfl _ _ gb301 50 #[.int .i64 t302, .int .i64 t303, .int .i64 t304, .int .i64 x306003_4, .int .i64 x306004_4, .slice none 0 0, .slice Ao68 t314.length co68] (0, 0) _ rfl (by (with_reducible repeat (first | refine blk_drewN ?_ _ | refine blk_drew ?_ | refine blk_alloc ?_ _)); refine blk_put (cs := #[.int .i64 t302, .int .i64 t303, .int .i64 t304, .int .i64 x306003_4, .int .i64 x306004_4, .slice none 0 0, .slice none 0 0]) ?_ 6 _ rfl; (with_reducible repeat (first | refine blk_drewN ?_ _ | refine blk_drew ?_ | refine blk_alloc ?_ _)); refine blk_put (cs := #[.int .i64 t302, .int .i64 t303, .int .i64 t304, .int .i64 x306003_4, .int .i64 x306004_4, .slice none 0 0, .slice none 0 0]) ?_ 5 _ rfl; (with_reducible repeat (first | refine blk_drewN ?_ _ | refine blk_drew ?_ | refine blk_alloc ?_ _)); refine blk_put (cs := #[.int .i64 t302, .int .i64 t303, .int .i64 t304, .int .i64 x306003_4, .int .i64 0, .slice none 0 0, .slice none 0 0]) ?_ 4 _ rfl; (with_reducible repeat (first | refine blk_drewN ?_ _ | refine blk_drew ?_ | refine blk_alloc ?_ _)); refine blk_put (cs := #[.int .i64 t302, .int .i64 t303, .int .i64 t304, .int .i64 0, .int .i64 0, .slice none 0 0, .slice none 0 0]) ?_ 3 _ rfl; (with_reducible repeat (first | refine blk_drewN ?_ _ | refine blk_drew ?_ | refine blk_alloc ?_ _)); refine blk_put (cs := #[.int .i64 t302, .int .i64 t303, .int .i64 0, .int .i64 0, .int .i64 0, .slice none 0 0, .slice none 0 0]) ?_ 2 _ rfl; (with_reducible repeat (first | refine blk_drewN ?_ _ | refine blk_drew ?_ | refine blk_alloc ?_ _)); refine blk_put (cs := #[.int .i64 t302, .int .i64 0, .int .i64 0, .int .i64 0, .int .i64 0, .slice none 0 0, .slice none 0 0]) ?_ 1 _ rfl; (with_reducible repeat (first | refine blk_drewN ?_ _ | refine blk_drew ?_ | refine blk_alloc ?_ _)); refine blk_put (cs := #[.int .i64 0, .int .i64 0, .int .i64 0, .int .i64 0, .int .i64 0, .slice none 0 0, .slice none 0 0]) ?_ 0 _ rfl; (with_reducible repeat (first | refine blk_drewN ?_ _ | refine blk_drew ?_ | refine blk_alloc ?_ _)); refine blk_far ?_ NB301_305.out _; (with_reducible repeat (first | refine blk_drewN ?_ _ | refine blk_drew ?_ | refine blk_alloc ?_ _)); exact BK301.out) Tryd.underlying50 rfl (by kernel_rfl)) rfl ?_
              exact ⟨_, _, by first | rfl | (simp [errW_none, errW_some] <;> rfl) | (simp [*, errW_none, errW_some] <;> rfl), by first | exact Kd.R_nil _ _ _ _ _ | exact Kd.N_nil _ _ _ _ _ | exact Kd.V_nil _ _ _ _ _ | exact Kd.Q_nil _ _ _ _ _ | exact Kd.S_nil _ _ _ _ _, by (with_reducible repeat (first | apply Kd.R_alloc | apply Kd.R_drewN | apply Kd.R_drew)); exact Kd.R_mono (Kd.R_far (p := ⟨gb301, 6, none⟩) (Kd.R_far (p := ⟨gb301, 5, none⟩) (Kd.R_far (p := ⟨gb301, 4, none⟩) (Kd.R_far (p := ⟨gb301, 3, none⟩) (Kd.R_far (p := ⟨gb301, 2, none⟩) (Kd.R_far (p := ⟨gb301, 1, none⟩) (Kd.R_far (p := ⟨gb301, 0, none⟩) (Kd.R_far (p := ⟨gb305, 6, none⟩) (Kd.R_types (Kd.R_types HO316.out BK305.out (by decide)) BK301.out (by decide)) (fun _ hk => hk.1.2) (.slice Ao68 t314.length co68)) (fun _ hk => hk.2) (.int .i64 t302)) (fun _ hk => hk.2) (.int .i64 t303)) (fun _ hk => hk.2) (.int .i64 t304)) (fun _ hk => hk.2) (.int .i64 x306003_4)) (fun _ hk => hk.2) (.int .i64 x306004_4)) (fun _ hk => hk.2) (.slice none 0 0)) (fun _ hk => hk.2) (.slice Ao68 t314.length co68)) (fun _ hk => trivial), by repeat (first | (with_reducible first | exact HB.out | apply below_alloc | apply pw_below_drewN | apply below_drew1 | refine below_set ?_ GE300.out | refine below_set ?_ GE301.out | refine below_set ?_ GE305.out) | exact HB.out)⟩
            · rw [if_neg c60] at H
              have c60b0 : (t302 == 5) = false := beq_eq_false_iff_ne.mpr c60
              have c60b1 : (t302 != 5) = true := bne_iff_ne.mpr c60
              simp only [Option.some.injEq, Prod.mk.injEq] at H
              obtain ⟨rfl, rfl, rfl, rfl, rfl, rfl, rfl⟩ := H
              have hnb71 := NB305_300.out
              have hnc71 := NB300_305.out
              have hnb72 := NB305_301.out
              have hnc72 := NB301_305.out
              have hcz73_0 : wc.cell? ⟨gb305, 0, none⟩ = some (.int .i64 t302) := (blk_cell BK305.out 0).trans rfl
              have hcz73_1 : wc.cell? ⟨gb305, 1, none⟩ = some (.int .i64 t303) := (blk_cell BK305.out 1).trans rfl
              have hcz73_2 : wc.cell? ⟨gb305, 2, none⟩ = some (.int .i64 t304) := (blk_cell BK305.out 2).trans rfl
              have hcz73_3 : wc.cell? ⟨gb305, 3, none⟩ = some (.int .i64 x306003_4) := (blk_cell BK305.out 3).trans rfl
              have hcz73_4 : wc.cell? ⟨gb305, 4, none⟩ = some (.int .i64 x306004_4) := (blk_cell BK305.out 4).trans rfl
              have hcz73_5 : wc.cell? ⟨gb305, 5, none⟩ = some (.slice none 0 0) := (blk_cell BK305.out 5).trans rfl
              have hcz73_6 : wc.cell? ⟨gb305, 6, none⟩ = some (.slice none 0 0) := (blk_cell BK305.out 6).trans rfl
              have hfz73_0 := blk_frozen BK305.out 0
              have hfz73_1 := blk_frozen BK305.out 1
              have hfz73_2 := blk_frozen BK305.out 2
              have hfz73_3 := blk_frozen BK305.out 3
              have hfz73_4 := blk_frozen BK305.out 4
              have hfz73_5 := blk_frozen BK305.out 5
              have hfz73_6 := blk_frozen BK305.out 6
              have hnb74 := NB301_300.out
              have hnc74 := NB300_301.out
              have hcz75_0 : wc.cell? ⟨gb301, 0, none⟩ = some (.int .i64 0) := (blk_cell BK301.out 0).trans rfl
              have hcz75_1 : wc.cell? ⟨gb301, 1, none⟩ = some (.int .i64 0) := (blk_cell BK301.out 1).trans rfl
              have hcz75_2 : wc.cell? ⟨gb301, 2, none⟩ = some (.int .i64 0) := (blk_cell BK301.out 2).trans rfl
              have hcz75_3 : wc.cell? ⟨gb301, 3, none⟩ = some (.int .i64 0) := (blk_cell BK301.out 3).trans rfl
              have hcz75_4 : wc.cell? ⟨gb301, 4, none⟩ = some (.int .i64 0) := (blk_cell BK301.out 4).trans rfl
              have hcz75_5 : wc.cell? ⟨gb301, 5, none⟩ = some (.slice none 0 0) := (blk_cell BK301.out 5).trans rfl
              have hcz75_6 : wc.cell? ⟨gb301, 6, none⟩ = some (.slice none 0 0) := (blk_cell BK301.out 6).trans rfl
              have hfz75_0 := blk_frozen BK301.out 0
              have hfz75_1 := blk_frozen BK301.out 1
              have hfz75_2 := blk_frozen BK301.out 2
              have hfz75_3 := blk_frozen BK301.out 3
              have hfz75_4 := blk_frozen BK301.out 4
              have hfz75_5 := blk_frozen BK301.out 5
              have hfz75_6 := blk_frozen BK301.out 6
              go_wp2
              refine bodyPost_ret (results_cell_row rfl _ _ gb301 50 #[.int .i64 t302, .int .i64 t303, .int .i64 t304, .int .i64 x306003_4, .int .i64 x306004_4, .slice none 0 0, .slice none 0 0] (0, 0) _ rfl (by (with_reducible repeat (first | refine blk_drewN ?_ _ | refine blk_drew ?_ | refine blk_alloc ?_ _)); refine blk_put (cs := #[.int .i64 t302, .int .i64 t303, .int .i64 t304, .int .i64 x306003_4, .int .i64 x306004_4, .slice none 0 0, .slice none 0 0]) ?_ 6 _ rfl; (with_reducible repeat (first | refine blk_drewN ?_ _ | refine blk_drew ?_ | refine blk_alloc ?_ _)); refine blk_put (cs := #[.int .i64 t302, .int .i64 t303, .int .i64 t304, .int .i64 x306003_4, .int .i64 x306004_4, .slice none 0 0, .slice none 0 0]) ?_ 5 _ rfl; (with_reducible repeat (first | refine blk_drewN ?_ _ | refine blk_drew ?_ | refine blk_alloc ?_ _)); refine blk_put (cs := #[.int .i64 t302, .int .i64 t303, .int .i64 t304, .int .i64 x306003_4, .int .i64 0, .slice none 0 0, .slice none 0 0]) ?_ 4 _ rfl; (with_reducible repeat (first | refine blk_drewN ?_ _ | refine blk_drew ?_ | refine blk_alloc ?_ _)); refine blk_put (cs := #[.int .i64 t302, .int .i64 t303, .int .i64 t304, .int .i64 0, .int .i64 0, .slice none 0 0, .slice none 0 0]) ?_ 3 _ rfl; (with_reducible repeat (first | refine blk_drewN ?_ _ | refine blk_drew ?_ | refine blk_alloc ?_ _)); refine blk_put (cs := #[.int .i64 t302, .int .i64 t303, .int .i64 0, .int .i64 0, .int .i64 0, .slice none 0 0, .slice none 0 0]) ?_ 2 _ rfl; (with_reducible repeat (first | refine blk_drewN ?_ _ | refine blk_drew ?_ | refine blk_alloc ?_ _)); refine blk_put (cs := #[.int .i64 t302, .int .i64 0, .int .i64 0, .int .i64 0, .int .i64 0, .slice none 0 0, .slice none 0 0]) ?_ 1 _ rfl; (with_reducible repeat (first | refine blk_drewN ?_ _ | refine blk_drew ?_ | refine blk_alloc ?_ _)); refine blk_put (cs := #[.int .i64 0, .int .i64 0, .int .i64 0, .int .i64 0, .int .i64 0, .slice none 0 0, .slice none 0 0]) ?_ 0 _ rfl; (with_reducible repeat (first | refine blk_drewN ?_ _ | refine blk_drew ?_ | refine blk_alloc ?_ _)); exact BK301.out) Tryd.underlying50 rfl (by kernel_rfl)) rfl ?_
              exact ⟨_, _, by first | rfl | (simp [errW_none, errW_some] <;> rfl) | (simp [*, errW_none, errW_some] <;> rfl), by first | exact Kd.R_nil _ _ _ _ _ | exact Kd.N_nil _ _ _ _ _ | exact Kd.V_nil _ _ _ _ _ | exact Kd.Q_nil _ _ _ _ _ | exact Kd.S_nil _ _ _ _ _, by first | exact Kd.R_nil _ _ _ _ _ | exact Kd.N_nil _ _ _ _ _ | exact Kd.V_nil _ _ _ _ _ | exact Kd.Q_nil _ _ _ _ _ | exact Kd.S_nil _ _ _ _ _, by repeat (first | (with_reducible first | exact HB.out | apply below_alloc | apply pw_below_drewN | apply below_drew1 | refine below_set ?_ GE300.out | refine below_set ?_ GE301.out | refine below_set ?_ GE305.out) | exact HB.out)⟩



end Go.Proofs.YtbplemhjhpfkgaaDoor.PCodeKinds

-- after the print's text PCodeKindsx7 (print.sh); two regions of broadsidekeep.Constraint walked by winv.py
import Derived.Test.YtbplemhjhpfkgaaDoorKx0
namespace Go.Proofs.YtbplemhjhpfkgaaDoor.PCodeKinds
open Go.RowKit Go.Proofs.YtbplemhjhpfkgaaDoorW.PrintWords Go.Proofs.YtbplemhjhpfkgaaDoorW.PrintLast Go.Proofs.YtbplemhjhpfkgaaDoorW.PrintMore
attribute [local go_sem] max2_int min2_int max_two min_two max_three min_three max_four min_four   -- for this text's walks alone
set_option linter.unusedVariables false
set_option linter.unusedSimpArgs false

-- NOT PRINTED: function 14 (code_Encode)

-- NOT PRINTED: function 79 (reflectlite_ValueOf)

-- NOT PRINTED: function 80 (reflectlite_Value_Type)

-- NOT PRINTED: function 81 (reflectlite_Value_IsNil)

-- NOT PRINTED: function 100 (reflectlite_TypeOf)

-- NOT PRINTED: function 101 (reflectlite_Value_Elem)

-- NOT PRINTED: function 102 (reflectlite_Value_Set)

-- NOT PRINTED: function 82 (errors_as)

-- NOT PRINTED: function 46 (errors_As)

-- NOT PRINTED: function 15 (fault_Kind)

-- NOT PRINTED: function 3 (broadsidelaw23_CodeRuns)

/-! ### broadsidekeep_Names: function 47 -/
def broadsidekeep_Names.f  : Option (List ByteArray) := some (([(⟨#[97]⟩ : ByteArray), (⟨#[98]⟩ : ByteArray), (⟨#[99]⟩ : ByteArray), (⟨#[100]⟩ : ByteArray), (⟨#[101]⟩ : ByteArray), (⟨#[102]⟩ : ByteArray), (⟨#[103]⟩ : ByteArray)] : List ByteArray))
set_option maxHeartbeats 8000000 in
set_option maxRecDepth 100000 in
theorem broadsidekeep_Names.calls  (r : List ByteArray) (w : World) (h : broadsidekeep_Names.f  = some r) :
    Calls Tryd.prog 47 #[] w fun e w' => ∃ v0_ : Value, e = .returned (v0_) ∧ Kd.R Kd.string 9 w' w.heap.size (fun _ => True) v0_ r ∧ Below w.heap.size w w' := by
  have HB := Aside0.mk (Below.refl w.heap.size w)
  have H : (some (([(⟨#[97]⟩ : ByteArray), (⟨#[98]⟩ : ByteArray), (⟨#[99]⟩ : ByteArray), (⟨#[100]⟩ : ByteArray), (⟨#[101]⟩ : ByteArray), (⟨#[102]⟩ : ByteArray), (⟨#[103]⟩ : ByteArray)] : List ByteArray))) = some r := h
  clear h
  obtain ⟨y234, hy234⟩ : ∃ y_ : List ByteArray, y_ = (([(⟨#[97]⟩ : ByteArray), (⟨#[98]⟩ : ByteArray), (⟨#[99]⟩ : ByteArray), (⟨#[100]⟩ : ByteArray), (⟨#[101]⟩ : ByteArray), (⟨#[102]⟩ : ByteArray), (⟨#[103]⟩ : ByteArray)] : List ByteArray)) := ⟨_, rfl⟩
  replace H : (some y234) = some r := by first | (rw [hy234]; with_reducible exact H) | (have H2_ := (Option.bind_some _ _).symm.trans H; rw [hy234]; with_reducible exact H2_) | (have H2_ := (Option.bind_some _ _).symm.trans H; with_reducible exact H2_) | with_reducible exact H | (rw [hy234]; exact H) | exact H
  have Ny234 := Aside0.mk hy234
  clear hy234
  obtain rfl := Option.some.inj H
  go_enter Tryd.func47, Tryd.ntmps47
  go_wp2_with (first | ((with_reducible refine gate_dst (N := 1) rfl ?_); refine Kd.R_lit Kd.string _ 9 ?hg (N := 1) ?hd (xs := ([(⟨#[97]⟩ : ByteArray), (⟨#[98]⟩ : ByteArray), (⟨#[99]⟩ : ByteArray), (⟨#[100]⟩ : ByteArray), (⟨#[101]⟩ : ByteArray), (⟨#[102]⟩ : ByteArray), (⟨#[103]⟩ : ByteArray)] : List ByteArray)) (inner := [.string (⟨#[97]⟩ : ByteArray), .string (⟨#[98]⟩ : ByteArray), .string (⟨#[99]⟩ : ByteArray), .string (⟨#[100]⟩ : ByteArray), .string (⟨#[101]⟩ : ByteArray), .string (⟨#[102]⟩ : ByteArray), .string (⟨#[103]⟩ : ByteArray)]) (ok := fun _ => True) (okp := fun _ => True) ?hr ?hp (fun _ hk => hk) trivial (Below.refl _ _) (Nat.le_refl _) (by simp) ?_; (case hd => rfl); (case hg => rfl); (case hr => first | (go_simp; done) | (go_simp; rfl)); (case hp => exact (Reps.one (show Kd.M Kd.string _ _ _ (⟨#[97]⟩ : ByteArray) [.string (⟨#[97]⟩ : ByteArray)] from rfl) (Reps.one (show Kd.M Kd.string _ _ _ (⟨#[98]⟩ : ByteArray) [.string (⟨#[98]⟩ : ByteArray)] from rfl) (Reps.one (show Kd.M Kd.string _ _ _ (⟨#[99]⟩ : ByteArray) [.string (⟨#[99]⟩ : ByteArray)] from rfl) (Reps.one (show Kd.M Kd.string _ _ _ (⟨#[100]⟩ : ByteArray) [.string (⟨#[100]⟩ : ByteArray)] from rfl) (Reps.one (show Kd.M Kd.string _ _ _ (⟨#[101]⟩ : ByteArray) [.string (⟨#[101]⟩ : ByteArray)] from rfl) (Reps.one (show Kd.M Kd.string _ _ _ (⟨#[102]⟩ : ByteArray) [.string (⟨#[102]⟩ : ByteArray)] from rfl) (Reps.one (show Kd.M Kd.string _ _ _ (⟨#[103]⟩ : ByteArray) [.string (⟨#[103]⟩ : ByteArray)] from rfl) (Reps.none _ _))))))))); intro v235 w1 ho2 hb hg_ hnew_; clear hg_ hnew_; (first | rw [← Ny234.out] at ho2 | (simp only [Int.reduceToNat] at ho2; rw [← Ny234.out] at ho2)); have n0_ := Aside0.mk (Kd.R_lower ho2 (below_size (by repeat (first | (with_reducible first | exact HB.out | apply below_alloc | apply pw_below_drewN | apply below_drew1) | exact HB.out)))); have n1_ := Aside0.mk (below_step (by repeat (first | (with_reducible first | exact HB.out | apply below_alloc | apply pw_below_drewN | apply below_drew1) | exact HB.out)) hb); clear HB; have HO236 := n0_; have HB := n1_; clear n0_ n1_; clear hb ho2))
  go_ret
  exact ⟨_, by first | rfl | (simp [errW_none, errW_some] <;> rfl) | (simp [*, errW_none, errW_some] <;> rfl), by (with_reducible repeat (first | apply Kd.R_alloc | apply Kd.R_drewN | apply Kd.R_drew)); exact HO236.out, by repeat (first | (with_reducible first | exact HB.out | apply below_alloc | apply pw_below_drewN | apply below_drew1) | exact HB.out)⟩

/-! ### broadsidebook_Within: function 24 -/
def broadsidebook_Within.f (a0 : Int) (a1 : Int) (a2 : Int) : Option (Int) := if (wrap64 ((wrap64 (a2 - a1)) + 1)) = 0 then (none) else (if (Int.tmod a0 (wrap64 ((wrap64 (a2 - a1)) + 1))) < 0 then (some (wrap64 (a1 + (wrap64 ((wrap64 ((wrap64 ((Int.tmod a0 (wrap64 ((wrap64 (a2 - a1)) + 1))) + a2)) - a1)) + 1))))) else (some (wrap64 (a1 + (Int.tmod a0 (wrap64 ((wrap64 (a2 - a1)) + 1)))))))
set_option maxHeartbeats 8000000 in
set_option maxRecDepth 100000 in
theorem broadsidebook_Within.calls (a0 : Int) (a1 : Int) (a2 : Int) (r : Int) (w : World) (h : broadsidebook_Within.f a0 a1 a2 = some r) :
    Calls Tryd.prog 24 #[.int .i64 a0, .int .i64 a1, .int .i64 a2] w fun e w' => e = .returned (.int .i64 r) ∧ Drawn0 w w' := by
  have H : (if (wrap64 ((wrap64 (a2 - a1)) + 1)) = 0 then (none) else (if (Int.tmod a0 (wrap64 ((wrap64 (a2 - a1)) + 1))) < 0 then (some (wrap64 (a1 + (wrap64 ((wrap64 ((wrap64 ((Int.tmod a0 (wrap64 ((wrap64 (a2 - a1)) + 1))) + a2)) - a1)) + 1))))) else (some (wrap64 (a1 + (Int.tmod a0 (wrap64 ((wrap64 (a2 - a1)) + 1)))))))) = some r := h
  clear h
  by_cases c4 : (wrap64 ((wrap64 (a2 - a1)) + 1)) = 0
  · rw [if_pos c4] at H
    exact absurd H (by simp)
  · rw [if_neg c4] at H
    have c4b0 : ((wrap64 ((wrap64 (a2 - a1)) + 1)) == 0) = false := beq_eq_false_iff_ne.mpr c4
    have c4b1 : ((wrap64 ((wrap64 (a2 - a1)) + 1)) != 0) = true := bne_iff_ne.mpr c4
    by_cases c5 : (Int.tmod a0 (wrap64 ((wrap64 (a2 - a1)) + 1))) < 0
    · rw [if_pos c5] at H
      have c5b0 : decide ((Int.tmod a0 (wrap64 ((wrap64 (a2 - a1)) + 1))) < 0) = true := decide_eq_true c5
      clear c5
      obtain rfl := Option.some.inj H
      go_enter Tryd.func24, Tryd.ntmps24
      go_wp2
      go_ret
      exact ⟨by first | rfl | (simp; done) | (simp [*]; done), by repeat (first | exact Drawn0.refl _ | apply Drawn0.step)⟩
    · rw [if_neg c5] at H
      have c5b0 : decide ((Int.tmod a0 (wrap64 ((wrap64 (a2 - a1)) + 1))) < 0) = false := decide_eq_false c5
      clear c5
      obtain rfl := Option.some.inj H
      go_enter Tryd.func24, Tryd.ntmps24
      go_wp2
      go_ret
      exact ⟨by first | rfl | (simp; done) | (simp [*]; done), by repeat (first | exact Drawn0.refl _ | apply Drawn0.step)⟩

/-! ### broadsidekeep_texts: function 83 -/
def broadsidekeep_texts.f  : Option (List ByteArray) := some (([(⟨#[]⟩ : ByteArray), (⟨#[120]⟩ : ByteArray), (⟨#[120, 121]⟩ : ByteArray), (⟨#[120, 121, 122]⟩ : ByteArray), (⟨#[120, 122]⟩ : ByteArray), (⟨#[121]⟩ : ByteArray), (⟨#[121, 121]⟩ : ByteArray)] : List ByteArray))
set_option maxHeartbeats 8000000 in
set_option maxRecDepth 100000 in
theorem broadsidekeep_texts.calls  (r : List ByteArray) (w : World) (h : broadsidekeep_texts.f  = some r) :
    Calls Tryd.prog 83 #[] w fun e w' => ∃ v0_ : Value, e = .returned (v0_) ∧ Kd.R Kd.string 9 w' w.heap.size (fun _ => True) v0_ r ∧ Below w.heap.size w w' := by
  have HB := Aside0.mk (Below.refl w.heap.size w)
  have H : (some (([(⟨#[]⟩ : ByteArray), (⟨#[120]⟩ : ByteArray), (⟨#[120, 121]⟩ : ByteArray), (⟨#[120, 121, 122]⟩ : ByteArray), (⟨#[120, 122]⟩ : ByteArray), (⟨#[121]⟩ : ByteArray), (⟨#[121, 121]⟩ : ByteArray)] : List ByteArray))) = some r := h
  clear h
  obtain ⟨y237, hy237⟩ : ∃ y_ : List ByteArray, y_ = (([(⟨#[]⟩ : ByteArray), (⟨#[120]⟩ : ByteArray), (⟨#[120, 121]⟩ : ByteArray), (⟨#[120, 121, 122]⟩ : ByteArray), (⟨#[120, 122]⟩ : ByteArray), (⟨#[121]⟩ : ByteArray), (⟨#[121, 121]⟩ : ByteArray)] : List ByteArray)) := ⟨_, rfl⟩
  replace H : (some y237) = some r := by first | (rw [hy237]; with_reducible exact H) | (have H2_ := (Option.bind_some _ _).symm.trans H; rw [hy237]; with_reducible exact H2_) | (have H2_ := (Option.bind_some _ _).symm.trans H; with_reducible exact H2_) | with_reducible exact H | (rw [hy237]; exact H) | exact H
  have Ny237 := Aside0.mk hy237
  clear hy237
  obtain rfl := Option.some.inj H
  go_enter Tryd.func83, Tryd.ntmps83
  go_wp2_with (first | ((with_reducible refine gate_dst (N := 1) rfl ?_); refine Kd.R_lit Kd.string _ 9 ?hg (N := 1) ?hd (xs := ([(⟨#[]⟩ : ByteArray), (⟨#[120]⟩ : ByteArray), (⟨#[120, 121]⟩ : ByteArray), (⟨#[120, 121, 122]⟩ : ByteArray), (⟨#[120, 122]⟩ : ByteArray), (⟨#[121]⟩ : ByteArray), (⟨#[121, 121]⟩ : ByteArray)] : List ByteArray)) (inner := [.string (⟨#[]⟩ : ByteArray), .string (⟨#[120]⟩ : ByteArray), .string (⟨#[120, 121]⟩ : ByteArray), .string (⟨#[120, 121, 122]⟩ : ByteArray), .string (⟨#[120, 122]⟩ : ByteArray), .string (⟨#[121]⟩ : ByteArray), .string (⟨#[121, 121]⟩ : ByteArray)]) (ok := fun _ => True) (okp := fun _ => True) ?hr ?hp (fun _ hk => hk) trivial (Below.refl _ _) (Nat.le_refl _) (by simp) ?_; (case hd => rfl); (case hg => rfl); (case hr => first | (go_simp; done) | (go_simp; rfl)); (case hp => exact (Reps.one (show Kd.M Kd.string _ _ _ (⟨#[]⟩ : ByteArray) [.string (⟨#[]⟩ : ByteArray)] from rfl) (Reps.one (show Kd.M Kd.string _ _ _ (⟨#[120]⟩ : ByteArray) [.string (⟨#[120]⟩ : ByteArray)] from rfl) (Reps.one (show Kd.M Kd.string _ _ _ (⟨#[120, 121]⟩ : ByteArray) [.string (⟨#[120, 121]⟩ : ByteArray)] from rfl) (Reps.one (show Kd.M Kd.string _ _ _ (⟨#[120, 121, 122]⟩ : ByteArray) [.string (⟨#[120, 121, 122]⟩ : ByteArray)] from rfl) (Reps.one (show Kd.M Kd.string _ _ _ (⟨#[120, 122]⟩ : ByteArray) [.string (⟨#[120, 122]⟩ : ByteArray)] from rfl) (Reps.one (show Kd.M Kd.string _ _ _ (⟨#[121]⟩ : ByteArray) [.string (⟨#[121]⟩ : ByteArray)] from rfl) (Reps.one (show Kd.M Kd.string _ _ _ (⟨#[121, 121]⟩ : ByteArray) [.string (⟨#[121, 121]⟩ : ByteArray)] from rfl) (Reps.none _ _))))))))); intro v238 w1 ho2 hb hg_ hnew_; clear hg_ hnew_; (first | rw [← Ny237.out] at ho2 | (simp only [Int.reduceToNat] at ho2; rw [← Ny237.out] at ho2)); have n0_ := Aside0.mk (Kd.R_lower ho2 (below_size (by repeat (first | (with_reducible first | exact HB.out | apply below_alloc | apply pw_below_drewN | apply below_drew1) | exact HB.out)))); have n1_ := Aside0.mk (below_step (by repeat (first | (with_reducible first | exact HB.out | apply below_alloc | apply pw_below_drewN | apply below_drew1) | exact HB.out)) hb); clear HB; have HO239 := n0_; have HB := n1_; clear n0_ n1_; clear hb ho2))
  go_ret
  exact ⟨_, by first | rfl | (simp [errW_none, errW_some] <;> rfl) | (simp [*, errW_none, errW_some] <;> rfl), by (with_reducible repeat (first | apply Kd.R_alloc | apply Kd.R_drewN | apply Kd.R_drew)); exact HO239.out, by repeat (first | (with_reducible first | exact HB.out | apply below_alloc | apply pw_below_drewN | apply below_drew1) | exact HB.out)⟩

/-! ### broadsidekeep_Constraint: function 48 -/
def broadsidekeep_Constraint.j0 : Nat → Int → Int → Bool → ByteArray → Int → Int → Int → ByteArray → Option (ByteArray × Int × Int × Int × ByteArray)
  | 0, _, _, _, _, _, _, _, _ => none
  | k + 1, x1, x9, x18, x242000, x242001, x242002, x242003, x242004 => if x18 = true then ((broadsidebook_Within.f (wrap64 (Int.tdiv x1 4)) 0 9).bind fun t243 => ((broadsidebook_Within.f (wrap64 (Int.tdiv x1 40)) 0 9).bind fun t244 => (some (x242000, 1, t243, wrap64 (t243 + t244), x242004)))) else (if x9 = 2 then ((broadsidekeep_texts.f).bind fun t245 => ((broadsidebook_Within.f (wrap64 (Int.tdiv x1 4)) 0 6).bind fun t248 => (if 0 ≤ t248 then (if t248 < (t245.length : Int) then (some (x242000, 2, x242002, x242003, rdOf ByteArray.empty t245 t248)) else (none)) else (none)))) else ((broadsidekeep_texts.f).bind fun t250 => ((broadsidebook_Within.f (wrap64 (Int.tdiv x1 4)) 0 6).bind fun t253 => (if 0 ≤ t253 then (if t253 < (t250.length : Int) then (some (x242000, 3, x242002, x242003, rdOf ByteArray.empty t250 t253)) else (none)) else (none)))))
def broadsidekeep_Constraint.f (k : Nat) (a0 : ByteArray) (a1 : Int) : Option (ByteArray × Int × Int × Int × ByteArray) := (broadsidebook_Within.f a1 0 3).bind fun t242 => (if t242 = 0 then (broadsidekeep_Constraint.j0 k a1 t242 (t242 == 0) a0 0 0 0 (⟨#[]⟩ : ByteArray)) else (broadsidekeep_Constraint.j0 k a1 t242 (t242 == 1) a0 0 0 0 (⟨#[]⟩ : ByteArray)))
theorem broadsidekeep_Constraint.mono_l : ∀ k, (∀ y0 y1 y2 y3 y4 y5 y6 y7, LeO (broadsidekeep_Constraint.j0 k y0 y1 y2 y3 y4 y5 y6 y7) (broadsidekeep_Constraint.j0 (k + 1) y0 y1 y2 y3 y4 y5 y6 y7))
  | 0 => fun _ _ _ _ _ _ _ _ r h => by simp [broadsidekeep_Constraint.j0] at h
  | k + 1 => by
    have ih0 := broadsidekeep_Constraint.mono_l k
    · intro y0 y1 y2 y3 y4 y5 y6 y7
      unfold broadsidekeep_Constraint.j0
      repeat' first
      | (with_reducible exact ih0 _ _ _ _ _ _ _ _)
      | (with_reducible exact LeO.refl _)
      | (with_reducible exact LeO.none _)
      | (with_reducible refine LeO.ite ?_ ?_)
      | (with_reducible refine LeO.bind ?_ (fun _ => ?_))
      | exact ih0 _ _ _ _ _ _ _ _
      | exact LeO.none _
      | refine LeO.ite ?_ ?_
      | refine LeO.bind ?_ (fun _ => ?_)
theorem broadsidekeep_Constraint.mono : ∀ a0 a1 k, LeO (broadsidekeep_Constraint.f k a0 a1) (broadsidekeep_Constraint.f (k + 1) a0 a1) := by
  intro a0 a1 k
  have ih0 := broadsidekeep_Constraint.mono_l k
  unfold broadsidekeep_Constraint.f
  repeat' first
      | (with_reducible exact ih0 _ _ _ _ _ _ _ _)
      | (with_reducible exact LeO.refl _)
      | (with_reducible exact LeO.none _)
      | (with_reducible refine LeO.ite ?_ ?_)
      | (with_reducible refine LeO.bind ?_ (fun _ => ?_))
      | exact ih0 _ _ _ _ _ _ _ _
      | exact LeO.none _
      | refine LeO.ite ?_ ?_
      | refine LeO.bind ?_ (fun _ => ?_)
def broadsidekeep_Constraint.T3 : Bool × List (List Nat × List Nat) := (true, [([], []), ([], []), ([1], [1]), ([2, 0], [2]), ([0, 3], [0, 3]), ([4], [4]), ([], []), ([6, 3], [6]), ([0, 1, 2, 3, 4, 5, 6, 7], []), ([8, 5, 7, 0, 1, 2, 3, 4, 5, 6, 7], [5, 8])])
def broadsidekeep_Constraint.B3 : List Nat := [0, 0, 2, 7, 15, 31, 0, 79, 255, 511]
theorem broadsidekeep_Constraint.tab3 : rtab .any (opsOf Tryd.f48 3) = broadsidekeep_Constraint.T3 := by kernel_rfl
theorem broadsidekeep_Constraint.bits3 : waitsOk broadsidekeep_Constraint.T3.2 broadsidekeep_Constraint.B3 = true := by kernel_rfl
def broadsidekeep_Constraint.T7 : Bool × List (List Nat × List Nat) := (true, [([], []), ([0], [0]), ([], []), ([2], [2]), ([3], [3]), ([1, 4], [1, 4]), ([0, 1, 2, 3, 4, 5], []), ([6, 5, 4, 0, 1, 2, 3, 4, 5], [5, 6])])
def broadsidekeep_Constraint.B7 : List Nat := [0, 1, 0, 4, 12, 31, 63, 127]
theorem broadsidekeep_Constraint.tab7 : rtab .any (opsOf Tryd.f48 7) = broadsidekeep_Constraint.T7 := by kernel_rfl
theorem broadsidekeep_Constraint.bits7 : waitsOk broadsidekeep_Constraint.T7.2 broadsidekeep_Constraint.B7 = true := by kernel_rfl
def broadsidekeep_Constraint.T9 : Bool × List (List Nat × List Nat) := (true, [([], []), ([], []), ([1], [1]), ([2, 0], [2]), ([0, 3], [0, 3]), ([4], [4]), ([], []), ([6, 3], [6]), ([0, 1, 2, 3, 4, 5, 6, 7], []), ([8, 5, 7, 0, 1, 2, 3, 4, 5, 6, 7], [5, 8])])
def broadsidekeep_Constraint.B9 : List Nat := [0, 0, 2, 7, 15, 31, 0, 79, 255, 511]
theorem broadsidekeep_Constraint.tab9 : rtab .any (opsOf Tryd.f48 9) = broadsidekeep_Constraint.T9 := by kernel_rfl
theorem broadsidekeep_Constraint.bits9 : waitsOk broadsidekeep_Constraint.T9.2 broadsidekeep_Constraint.B9 = true := by kernel_rfl
def kc2Reg.T9 : Bool × List (List Nat × List Nat) := (true, [([], []), ([], []), ([1], [1]), ([2, 0], [2]), ([0, 3], [0, 3]), ([4], [4]), ([], []), ([6, 3], [6]), ([0, 1, 2, 3, 4, 5, 6, 7], []), ([8, 5, 7, 0, 1, 2, 3, 4, 5, 6, 7], [5, 8])])
def kc2Reg.B9 : List Nat := [0, 0, 2, 7, 15, 31, 0, 79, 255, 511]
theorem kc2Reg.tab9 : rtab .any (opsOf Tryd.f48 9) = kc2Reg.T9 := by kernel_rfl
theorem kc2Reg.bits9 : waitsOk kc2Reg.T9.2 kc2Reg.B9 = true := by kernel_rfl
def kc3Reg.T3 : Bool × List (List Nat × List Nat) := (true, [([], []), ([], []), ([1], [1]), ([2, 0], [2]), ([0, 3], [0, 3]), ([4], [4]), ([], []), ([6, 3], [6]), ([0, 1, 2, 3, 4, 5, 6, 7], []), ([8, 5, 7, 0, 1, 2, 3, 4, 5, 6, 7], [5, 8])])
def kc3Reg.B3 : List Nat := [0, 0, 2, 7, 15, 31, 0, 79, 255, 511]
theorem kc3Reg.tab3 : rtab .any (opsOf Tryd.f48 3) = kc3Reg.T3 := by kernel_rfl
theorem kc3Reg.bits3 : waitsOk kc3Reg.T3.2 kc3Reg.B3 = true := by kernel_rfl
set_option maxHeartbeats 8000000 in
set_option maxRecDepth 100000 in
theorem broadsidekeep_Constraint.calls (k : Nat) (a0 : ByteArray) (a1 : Int) (r1 : ByteArray) (r2 : Int) (r3 : Int) (r4 : Int) (r5 : ByteArray) (w : World) (h : broadsidekeep_Constraint.f k a0 a1 = some (r1, r2, r3, r4, r5)) :
    Calls Tryd.prog 48 #[.string a0, .int .i64 a1] w fun e w' => e = .returned (.agg #[.string r1, .int .i64 r2, .int .i64 r3, .int .i64 r4, .string r5]) ∧ Below w.heap.size w w' := by
  have hu44 := Tryd.underlying44
  have HB := Aside0.mk (Below.refl w.heap.size w)
  have H : ((broadsidebook_Within.f a1 0 3).bind fun t242 => (if t242 = 0 then (broadsidekeep_Constraint.j0 k a1 t242 (t242 == 0) a0 0 0 0 (⟨#[]⟩ : ByteArray)) else (broadsidekeep_Constraint.j0 k a1 t242 (t242 == 1) a0 0 0 0 (⟨#[]⟩ : ByteArray)))) = some (r1, r2, r3, r4, r5) := h
  clear h
  replace H := Option.bind_eq_some_iff.mp H
  obtain ⟨t242, A30, H⟩ := H
  replace H : (if t242 = 0 then (broadsidekeep_Constraint.j0 k a1 t242 (t242 == 0) a0 0 0 0 (⟨#[]⟩ : ByteArray)) else (broadsidekeep_Constraint.j0 k a1 t242 (t242 == 1) a0 0 0 0 (⟨#[]⟩ : ByteArray))) = some (r1, r2, r3, r4, r5) := H
  have A3 := Aside0.mk A30
  clear A30
  have HC4 := Aside0.mk H
  clear H
  go_enter Tryd.func48, Tryd.ntmps48
  go_upto_if 18 with (first | ((with_reducible refine gate_dst (N := 4) rfl ?_); refine box_event ?hg (N := 4) ?hd (cs := #[.string (⟨#[]⟩ : ByteArray), .int .i64 0, .int .i64 0, .int .i64 0, .string (⟨#[]⟩ : ByteArray)]) (t := 44) ?hr ?_; (case hd => rfl); (case hg => rfl); (case hr => first | (go_simp; done) | (go_simp; rfl)); intro gb240 hg w5 hbox hb; have n0_ := Aside0.mk (below_step (by repeat (first | (with_reducible first | exact HB.out | apply below_alloc | apply pw_below_drewN | apply below_drew1) | exact HB.out)) hb); have n1_ := Aside0.mk (hbox); have n2_ := Aside0.mk ((by rw [hg]; exact (below_size (by repeat (first | (with_reducible first | exact HB.out | apply below_alloc | apply pw_below_drewN | apply below_drew1) | exact HB.out))) : w.heap.size ≤ gb240)); have n3_ := Aside0.mk ((by rw [hg]; exact (below_size (by repeat (first | (with_reducible first | exact HB.out | apply below_alloc | apply pw_below_drewN | apply below_drew1) | exact HB.out))) : w.heap.size ≤ gb240)); clear HB; have HB := n0_; have BK240 := n1_; have GW240 := n2_; have GE240 := n3_; clear n0_ n1_ n2_ n3_; clear hb hbox hg) | ((with_reducible refine gate_dst (N := 5) rfl ?_); refine box_event ?hg (N := 5) ?hd (cs := #[.string (⟨#[]⟩ : ByteArray), .int .i64 0, .int .i64 0, .int .i64 0, .string (⟨#[]⟩ : ByteArray)]) (t := 44) ?hr ?_; (case hd => rfl); (case hg => rfl); (case hr => first | (go_simp; done) | (go_simp; rfl)); intro gb241 hg w6 hbox hb; have n0_ := Aside0.mk (blk_below (g := gb240) (o := .cells #[.string (⟨#[]⟩ : ByteArray), .int .i64 0, .int .i64 0, .int .i64 0, .string (⟨#[]⟩ : ByteArray)] 44 (0, 0)) (by (with_reducible repeat (first | refine blk_drewN ?_ _ | refine blk_drew ?_ | refine blk_alloc ?_ _)); exact BK240.out) hb); have n1_ := Aside0.mk (below_step (by repeat (first | (with_reducible first | exact HB.out | apply below_alloc | apply pw_below_drewN | apply below_drew1 | refine below_set ?_ GE240.out) | exact HB.out)) hb); have n2_ := Aside0.mk (hbox); have n3_ := Aside0.mk ((by rw [hg]; exact (below_size (by repeat (first | (with_reducible first | exact HB.out | apply below_alloc | apply pw_below_drewN | apply below_drew1 | refine below_set ?_ GE240.out) | exact HB.out))) : w.heap.size ≤ gb241)); have n4_ := Aside0.mk ((by rw [hg]; exact (below_size (by repeat (first | (with_reducible first | exact HB.out | apply below_alloc | apply pw_below_drewN | apply below_drew1 | refine below_set ?_ GE240.out) | exact HB.out))) : w.heap.size ≤ gb241)); have n5_ := Aside0.mk ((by rw [hg]; exact Nat.ne_of_lt (blk_lt (g := gb240) (o := .cells #[.string (⟨#[]⟩ : ByteArray), .int .i64 0, .int .i64 0, .int .i64 0, .string (⟨#[]⟩ : ByteArray)] 44 (0, 0)) (by (with_reducible repeat (first | refine blk_drewN ?_ _ | refine blk_drew ?_ | refine blk_alloc ?_ _)); exact BK240.out)) : gb240 ≠ gb241)); have n6_ := Aside0.mk ((by rw [hg]; exact Nat.ne_of_gt (blk_lt (g := gb240) (o := .cells #[.string (⟨#[]⟩ : ByteArray), .int .i64 0, .int .i64 0, .int .i64 0, .string (⟨#[]⟩ : ByteArray)] 44 (0, 0)) (by (with_reducible repeat (first | refine blk_drewN ?_ _ | refine blk_drew ?_ | refine blk_alloc ?_ _)); exact BK240.out)) : gb241 ≠ gb240)); clear BK240; clear HB; have BK240 := n0_; have HB := n1_; have BK241 := n2_; have GW241 := n3_; have GE241 := n4_; have NB240_241 := n5_; have NB241_240 := n6_; clear n0_ n1_ n2_ n3_ n4_ n5_ n6_; clear hb hbox hg; have hnb7 := NB241_240.out; have hnc7 := NB240_241.out; have hcz8_0 : w6.cell? ⟨gb241, 0, none⟩ = some (.string (⟨#[]⟩ : ByteArray)) := (blk_cell BK241.out 0).trans rfl; have hcz8_1 : w6.cell? ⟨gb241, 1, none⟩ = some (.int .i64 0) := (blk_cell BK241.out 1).trans rfl; have hcz8_2 : w6.cell? ⟨gb241, 2, none⟩ = some (.int .i64 0) := (blk_cell BK241.out 2).trans rfl; have hcz8_3 : w6.cell? ⟨gb241, 3, none⟩ = some (.int .i64 0) := (blk_cell BK241.out 3).trans rfl; have hcz8_4 : w6.cell? ⟨gb241, 4, none⟩ = some (.string (⟨#[]⟩ : ByteArray)) := (blk_cell BK241.out 4).trans rfl; have hfz8_0 := blk_frozen BK241.out 0; have hfz8_1 := blk_frozen BK241.out 1; have hfz8_2 := blk_frozen BK241.out 2; have hfz8_3 := blk_frozen BK241.out 3; have hfz8_4 := blk_frozen BK241.out 4) | ((with_reducible refine gate_callee (f := 24) rfl ?_); refine goesL_ (some 9) rfl rfl Tryd.func24 (by kernel_rfl) rfl #[.int .i64 a1, .int .i64 0, .int .i64 3] rfl (by (try simp only [List.map_toArray, List.map_cons, List.map_nil]); first | done | rfl | (simp only [List.length_drop, List.length_take]; rfl)) ?_; (with_reducible refine (broadsidebook_Within.calls a1 0 3 t242 _ A3.out).mono ?_); rintro e w' ⟨rfl, ⟨nd, rfl⟩⟩; refine ⟨_, rfl, ?_⟩))
  (try simp only [Act.put, List.setIfInBounds_toArray, List.set_cons_zero, List.set_cons_succ])
  go_cut [18] (fun v18 wc => ∃ (kq : Nat) (x18_3 : Bool), v18 = .bool x18_3 ∧ Aside0 (broadsidekeep_Constraint.j0 kq a1 t242 x18_3 a0 0 0 0 (⟨#[]⟩ : ByteArray) = some (r1, r2, r3, r4, r5)) ∧ Aside0 (kq ≤ k) ∧ Aside0 (wc.heap[gb240]? = some (.cells #[.string (⟨#[]⟩ : ByteArray), .int .i64 0, .int .i64 0, .int .i64 0, .string (⟨#[]⟩ : ByteArray)] 44 (0, 0))) ∧ Aside0 (wc.heap[gb241]? = some (.cells #[.string a0, .int .i64 0, .int .i64 0, .int .i64 0, .string (⟨#[]⟩ : ByteArray)] 44 (0, 0))) ∧ Aside0 (Below w.heap.size w wc))
  case first =>
    have H := HC4.out
    clear HC4
    by_cases c9 : t242 = 0
    · rw [if_pos c9] at H
      have c9b0 : (t242 == 0) = true := beq_iff_eq.mpr c9
      have c9b1 : (t242 != 0) = false := bne_eq_false_iff_eq.mpr c9
      clear c9
      (first | rw [c9b0] | (simp only [i64_w, i32_w]; rw [c9b0]) | skip)
      have H' := Aside0.mk H
      clear H
      go_wp2
      go_meet
      case rel => exact ⟨_, ((t242 == 0)), (by first | rfl | (simp; done) | (simp [*]; done)), H', ⟨by first | omega | exact Nat.le_refl _⟩, ⟨by (with_reducible repeat (first | refine blk_drewN ?_ _ | refine blk_drew ?_ | refine blk_alloc ?_ _)); refine blk_far ?_ NB240_241.out _; (with_reducible repeat (first | refine blk_drewN ?_ _ | refine blk_drew ?_ | refine blk_alloc ?_ _)); refine blk_far ?_ NB240_241.out _; (with_reducible repeat (first | refine blk_drewN ?_ _ | refine blk_drew ?_ | refine blk_alloc ?_ _)); refine blk_far ?_ NB240_241.out _; (with_reducible repeat (first | refine blk_drewN ?_ _ | refine blk_drew ?_ | refine blk_alloc ?_ _)); refine blk_far ?_ NB240_241.out _; (with_reducible repeat (first | refine blk_drewN ?_ _ | refine blk_drew ?_ | refine blk_alloc ?_ _)); refine blk_far ?_ NB240_241.out _; (with_reducible repeat (first | refine blk_drewN ?_ _ | refine blk_drew ?_ | refine blk_alloc ?_ _)); exact BK240.out⟩, ⟨by (with_reducible repeat (first | refine blk_drewN ?_ _ | refine blk_drew ?_ | refine blk_alloc ?_ _)); refine blk_put (cs := #[.string a0, .int .i64 0, .int .i64 0, .int .i64 0, .string (⟨#[]⟩ : ByteArray)]) ?_ 4 _ rfl; (with_reducible repeat (first | refine blk_drewN ?_ _ | refine blk_drew ?_ | refine blk_alloc ?_ _)); refine blk_put (cs := #[.string a0, .int .i64 0, .int .i64 0, .int .i64 0, .string (⟨#[]⟩ : ByteArray)]) ?_ 3 _ rfl; (with_reducible repeat (first | refine blk_drewN ?_ _ | refine blk_drew ?_ | refine blk_alloc ?_ _)); refine blk_put (cs := #[.string a0, .int .i64 0, .int .i64 0, .int .i64 0, .string (⟨#[]⟩ : ByteArray)]) ?_ 2 _ rfl; (with_reducible repeat (first | refine blk_drewN ?_ _ | refine blk_drew ?_ | refine blk_alloc ?_ _)); refine blk_put (cs := #[.string a0, .int .i64 0, .int .i64 0, .int .i64 0, .string (⟨#[]⟩ : ByteArray)]) ?_ 1 _ rfl; (with_reducible repeat (first | refine blk_drewN ?_ _ | refine blk_drew ?_ | refine blk_alloc ?_ _)); refine blk_put (cs := #[.string (⟨#[]⟩ : ByteArray), .int .i64 0, .int .i64 0, .int .i64 0, .string (⟨#[]⟩ : ByteArray)]) ?_ 0 _ rfl; (with_reducible repeat (first | refine blk_drewN ?_ _ | refine blk_drew ?_ | refine blk_alloc ?_ _)); exact BK241.out⟩, ⟨by repeat (first | (with_reducible first | exact HB.out | apply below_alloc | apply pw_below_drewN | apply below_drew1 | refine below_set ?_ GE240.out | refine below_set ?_ GE241.out) | exact HB.out)⟩⟩
    · rw [if_neg c9] at H
      have c9b0 : (t242 == 0) = false := beq_eq_false_iff_ne.mpr c9
      have c9b1 : (t242 != 0) = true := bne_iff_ne.mpr c9
      (first | rw [c9b0] | (simp only [i64_w, i32_w]; rw [c9b0]) | skip)
      have H' := Aside0.mk H
      clear H
      go_wp2
      go_meet
      case rel => exact ⟨_, ((t242 == 1)), (by first | rfl | (simp; done) | (simp [*]; done)), H', ⟨by first | omega | exact Nat.le_refl _⟩, ⟨by (with_reducible repeat (first | refine blk_drewN ?_ _ | refine blk_drew ?_ | refine blk_alloc ?_ _)); refine blk_far ?_ NB240_241.out _; (with_reducible repeat (first | refine blk_drewN ?_ _ | refine blk_drew ?_ | refine blk_alloc ?_ _)); refine blk_far ?_ NB240_241.out _; (with_reducible repeat (first | refine blk_drewN ?_ _ | refine blk_drew ?_ | refine blk_alloc ?_ _)); refine blk_far ?_ NB240_241.out _; (with_reducible repeat (first | refine blk_drewN ?_ _ | refine blk_drew ?_ | refine blk_alloc ?_ _)); refine blk_far ?_ NB240_241.out _; (with_reducible repeat (first | refine blk_drewN ?_ _ | refine blk_drew ?_ | refine blk_alloc ?_ _)); refine blk_far ?_ NB240_241.out _; (with_reducible repeat (first | refine blk_drewN ?_ _ | refine blk_drew ?_ | refine blk_alloc ?_ _)); exact BK240.out⟩, ⟨by (with_reducible repeat (first | refine blk_drewN ?_ _ | refine blk_drew ?_ | refine blk_alloc ?_ _)); refine blk_put (cs := #[.string a0, .int .i64 0, .int .i64 0, .int .i64 0, .string (⟨#[]⟩ : ByteArray)]) ?_ 4 _ rfl; (with_reducible repeat (first | refine blk_drewN ?_ _ | refine blk_drew ?_ | refine blk_alloc ?_ _)); refine blk_put (cs := #[.string a0, .int .i64 0, .int .i64 0, .int .i64 0, .string (⟨#[]⟩ : ByteArray)]) ?_ 3 _ rfl; (with_reducible repeat (first | refine blk_drewN ?_ _ | refine blk_drew ?_ | refine blk_alloc ?_ _)); refine blk_put (cs := #[.string a0, .int .i64 0, .int .i64 0, .int .i64 0, .string (⟨#[]⟩ : ByteArray)]) ?_ 2 _ rfl; (with_reducible repeat (first | refine blk_drewN ?_ _ | refine blk_drew ?_ | refine blk_alloc ?_ _)); refine blk_put (cs := #[.string a0, .int .i64 0, .int .i64 0, .int .i64 0, .string (⟨#[]⟩ : ByteArray)]) ?_ 1 _ rfl; (with_reducible repeat (first | refine blk_drewN ?_ _ | refine blk_drew ?_ | refine blk_alloc ?_ _)); refine blk_put (cs := #[.string (⟨#[]⟩ : ByteArray), .int .i64 0, .int .i64 0, .int .i64 0, .string (⟨#[]⟩ : ByteArray)]) ?_ 0 _ rfl; (with_reducible repeat (first | refine blk_drewN ?_ _ | refine blk_drew ?_ | refine blk_alloc ?_ _)); exact BK241.out⟩, ⟨by repeat (first | (with_reducible first | exact HB.out | apply below_alloc | apply pw_below_drewN | apply below_drew1 | refine below_set ?_ GE240.out | refine below_set ?_ GE241.out) | exact HB.out)⟩⟩
  case rest =>
    clear HC4
    try clear c2
    try clear p2
    try clear c4
    try clear c7
    try clear c9
    try clear c9b0
    try clear c9b1
    try clear hcz8_0
    try clear hcz8_1
    try clear hcz8_2
    try clear hcz8_3
    try clear hcz8_4
    try clear hfz8_0
    try clear hfz8_1
    try clear hfz8_2
    try clear hfz8_3
    try clear hfz8_4
    obtain ⟨kq, x18_3, rfl, HA, HJ3, BK240, BK241, HB⟩ := hcut
    cases kq with
    | zero => exact absurd HA.out (by simp [broadsidekeep_Constraint.j0])
    | succ kj3 =>
      have H := HA.out
      clear HA
      simp only [broadsidekeep_Constraint.j0] at H
      by_cases c10 : x18_3 = true
      · subst c10
        have H1 : ((broadsidebook_Within.f (wrap64 (Int.tdiv a1 4)) 0 9).bind fun t243 => ((broadsidebook_Within.f (wrap64 (Int.tdiv a1 40)) 0 9).bind fun t244 => (some (a0, 1, t243, wrap64 (t243 + t244), (⟨#[]⟩ : ByteArray))))) = some (r1, r2, r3, r4, r5) := by rw [if_pos rfl] at H; exact H
        clear H
        have H := H1
        clear H1
        replace H := Option.bind_eq_some_iff.mp H
        obtain ⟨t243, A110, H⟩ := H
        replace H : ((broadsidebook_Within.f (wrap64 (Int.tdiv a1 40)) 0 9).bind fun t244 => (some (a0, 1, t243, wrap64 (t243 + t244), (⟨#[]⟩ : ByteArray)))) = some (r1, r2, r3, r4, r5) := H
        have A11 := Aside0.mk A110
        clear A110
        replace H := Option.bind_eq_some_iff.mp H
        obtain ⟨t244, A120, H⟩ := H
        replace H : (some (a0, 1, t243, wrap64 (t243 + t244), (⟨#[]⟩ : ByteArray))) = some (r1, r2, r3, r4, r5) := H
        have A12 := Aside0.mk A120
        clear A120
        simp only [Option.some.injEq, Prod.mk.injEq] at H
        obtain ⟨rfl, rfl, rfl, rfl, rfl⟩ := H
        try go_wp2_with (first | ((with_reducible refine gate_callee (f := 24) rfl ?_); refine goesL_ (some 23) rfl rfl Tryd.func24 (by kernel_rfl) rfl #[.int .i64 (wrap64 (Int.tdiv a1 4)), .int .i64 0, .int .i64 9] rfl (by (try simp only [List.map_toArray, List.map_cons, List.map_nil]); first | done | rfl | (simp only [List.length_drop, List.length_take]; rfl)) ?_; (with_reducible refine (broadsidebook_Within.calls (wrap64 (Int.tdiv a1 4)) 0 9 t243 _ A11.out).mono ?_); rintro e w' ⟨rfl, ⟨nd, rfl⟩⟩; refine ⟨_, rfl, ?_⟩; (try (rw [drewN_self wc]; generalize hq_ : World.drewN wc _ = wc; have n0_ : Aside0 (wc.heap[gb240]? = some (.cells #[.string (⟨#[]⟩ : ByteArray), .int .i64 0, .int .i64 0, .int .i64 0, .string (⟨#[]⟩ : ByteArray)] 44 (0, 0))) := ⟨by rw [← hq_]; exact (by (with_reducible repeat (first | refine blk_drewN ?_ _ | refine blk_drew ?_ | refine blk_alloc ?_ _)); exact BK240.out)⟩; have n1_ : Aside0 (wc.heap[gb241]? = some (.cells #[.string a0, .int .i64 0, .int .i64 0, .int .i64 0, .string (⟨#[]⟩ : ByteArray)] 44 (0, 0))) := ⟨by rw [← hq_]; exact (by (with_reducible repeat (first | refine blk_drewN ?_ _ | refine blk_drew ?_ | refine blk_alloc ?_ _)); exact BK241.out)⟩; have n2_ : Aside0 (Below w.heap.size w wc) := ⟨by rw [← hq_]; exact (by repeat (first | (with_reducible first | exact HB.out | apply below_alloc | apply pw_below_drewN | apply below_drew1 | refine below_set ?_ GE240.out | refine below_set ?_ GE241.out) | exact HB.out))⟩; clear BK240 BK241 HB hq_; have BK240 := n0_; have BK241 := n1_; have HB := n2_; clear n0_ n1_ n2_)); have hnb13 := NB241_240.out; have hnc13 := NB240_241.out; have hcz14_0 : wc.cell? ⟨gb241, 0, none⟩ = some (.string a0) := (blk_cell BK241.out 0).trans rfl; have hcz14_1 : wc.cell? ⟨gb241, 1, none⟩ = some (.int .i64 0) := (blk_cell BK241.out 1).trans rfl; have hcz14_2 : wc.cell? ⟨gb241, 2, none⟩ = some (.int .i64 0) := (blk_cell BK241.out 2).trans rfl; have hcz14_3 : wc.cell? ⟨gb241, 3, none⟩ = some (.int .i64 0) := (blk_cell BK241.out 3).trans rfl; have hcz14_4 : wc.cell? ⟨gb241, 4, none⟩ = some (.string (⟨#[]⟩ : ByteArray)) := (blk_cell BK241.out 4).trans rfl; have hfz14_0 := blk_frozen BK241.out 0; have hfz14_1 := blk_frozen BK241.out 1; have hfz14_2 := blk_frozen BK241.out 2; have hfz14_3 := blk_frozen BK241.out 3; have hfz14_4 := blk_frozen BK241.out 4))
        have n0_ : Aside0 (((wc.setCell ⟨gb241, 1, none⟩ (.int .i64 1)).setCell ⟨gb241, 2, none⟩ (.int .i64 t243)).heap[gb240]? = some (.cells #[.string (⟨#[]⟩ : ByteArray), .int .i64 0, .int .i64 0, .int .i64 0, .string (⟨#[]⟩ : ByteArray)] 44 (0, 0))) := ⟨by (with_reducible repeat (first | refine blk_drewN ?_ _ | refine blk_drew ?_ | refine blk_alloc ?_ _)); refine blk_far ?_ NB240_241.out _; (with_reducible repeat (first | refine blk_drewN ?_ _ | refine blk_drew ?_ | refine blk_alloc ?_ _)); refine blk_far ?_ NB240_241.out _; (with_reducible repeat (first | refine blk_drewN ?_ _ | refine blk_drew ?_ | refine blk_alloc ?_ _)); exact BK240.out⟩
        have n1_ : Aside0 (((wc.setCell ⟨gb241, 1, none⟩ (.int .i64 1)).setCell ⟨gb241, 2, none⟩ (.int .i64 t243)).heap[gb241]? = some (.cells #[.string a0, .int .i64 1, .int .i64 t243, .int .i64 0, .string (⟨#[]⟩ : ByteArray)] 44 (0, 0))) := ⟨by (with_reducible repeat (first | refine blk_drewN ?_ _ | refine blk_drew ?_ | refine blk_alloc ?_ _)); refine blk_put (cs := #[.string a0, .int .i64 1, .int .i64 0, .int .i64 0, .string (⟨#[]⟩ : ByteArray)]) ?_ 2 _ rfl; (with_reducible repeat (first | refine blk_drewN ?_ _ | refine blk_drew ?_ | refine blk_alloc ?_ _)); refine blk_put (cs := #[.string a0, .int .i64 0, .int .i64 0, .int .i64 0, .string (⟨#[]⟩ : ByteArray)]) ?_ 1 _ rfl; (with_reducible repeat (first | refine blk_drewN ?_ _ | refine blk_drew ?_ | refine blk_alloc ?_ _)); exact BK241.out⟩
        have n2_ : Aside0 (Below w.heap.size w ((wc.setCell ⟨gb241, 1, none⟩ (.int .i64 1)).setCell ⟨gb241, 2, none⟩ (.int .i64 t243))) := ⟨by repeat (first | (with_reducible first | exact HB.out | apply below_alloc | apply pw_below_drewN | apply below_drew1 | refine below_set ?_ GE240.out | refine below_set ?_ GE241.out) | exact HB.out)⟩
        (try clear BK240)
        (try clear BK241)
        (try clear HB)
        generalize ((wc.setCell ⟨gb241, 1, none⟩ (.int .i64 1)).setCell ⟨gb241, 2, none⟩ (.int .i64 t243)) = w15 at n0_ n1_ n2_ ⊢
        have BK240 := n0_
        have BK241 := n1_
        have HB := n2_
        clear n0_ n1_ n2_
        have n0_ := Aside0.mk (blk_drew BK240.out)
        have n1_ := Aside0.mk (blk_drew BK241.out)
        have n2_ := Aside0.mk (below_drew1 HB.out)
        clear BK240
        clear BK241
        clear HB
        have BK240 := n0_
        have BK241 := n1_
        have HB := n2_
        clear n0_ n1_ n2_
        refine start_ (n := 8) (S := fun w' => w'.cell? ⟨gb241, 0, none⟩ = some (.string a0) ∧ w'.cell? ⟨gb241, 1, none⟩ = some (.int .i64 1) ∧ w'.cell? ⟨gb241, 2, none⟩ = some (.int .i64 t243) ∧ w'.cell? ⟨gb241, 3, none⟩ = some (.int .i64 0) ∧ w'.cell? ⟨gb241, 4, none⟩ = some (.string (⟨#[]⟩ : ByteArray))) (ds := [7]) #[false, false, false, false, false, false, false, false] (by kernel_rfl) rfl rfl ⟨(blk_cell BK241.out 0).trans rfl, (blk_cell BK241.out 1).trans rfl, (blk_cell BK241.out 2).trans rfl, (blk_cell BK241.out 3).trans rfl, (blk_cell BK241.out 4).trans rfl⟩ (fun hHeld => ?_); refine with_tabW broadsidekeep_Constraint.tab7 broadsidekeep_Constraint.bits7 (fun HT_ HW_ => ?_)
        generalize w15.drew = w16 at BK240 BK241 HB hHeld ⊢
        refine pure_ (i := 0) (N := some 26) (v := ?_) (a' := ?_) #[true, false, false, false, false, false, false, false] rfl rfl (any_of HT_.out (by kernel_rfl)) (fun _ _ _ h => h) (Or.inl ⟨by rfl, ?_⟩) ?_ ?_
        rotate_left
        · intro w'
          go_simp
          with_reducible rfl
        rotate_left
        · simp only [Act.put, List.setIfInBounds_toArray, List.set_cons_zero, List.set_cons_succ, i64_w, i32_w]
          rfl
        refine pure_ (i := 2) (N := some 28) (v := ?_) (a' := ?_) #[true, false, true, false, false, false, false, false] rfl rfl (any_of HT_.out (by kernel_rfl)) (fun _ _ _ h => h) (Or.inl ⟨by rfl, ?_⟩) ?_ ?_
        rotate_left
        · intro w'
          go_simp
          with_reducible rfl
        rotate_left
        · simp only [Act.put, List.setIfInBounds_toArray, List.set_cons_zero, List.set_cons_succ, i64_w, i32_w]
          rfl
        refine pure_ (i := 3) (N := some 29) (v := ?_) (a' := ?_) #[true, false, true, true, false, false, false, false] rfl rfl (any_of HT_.out (by kernel_rfl)) (fun _ _ _ h => h) (Or.inl ⟨by rfl, ?_⟩) ?_ ?_
        rotate_left
        · intro w'
          go_simp
          with_reducible rfl
        rotate_left
        · simp only [Act.put, List.setIfInBounds_toArray, List.set_cons_zero, List.set_cons_succ, i64_w, i32_w]
          rfl
        refine take_ (i := 1) (N := some 27) (v := ?_) (a' := ?_) #[true, true, true, true, false, false, false, false] rfl rfl (take_ofW HT_.out HW_.out (by kernel_rfl)) (fun _ _ _ h => h) (Or.inl ⟨by rfl, ?_⟩) hHeld ?_ ?_
        rotate_left
        · rintro w' ⟨s0, s1, s2, s3, s4⟩
          go_simp
          with_reducible rfl
        rotate_left
        · simp only [Act.put, List.setIfInBounds_toArray, List.set_cons_zero, List.set_cons_succ, i64_w, i32_w]
          rfl
        refine one_ (i := 4) (N := some 30) #[true, true, true, true, true, false, false, false] rfl rfl (one_of HT_.out (by kernel_rfl)) (by decide) (fun K hK => ?_)
        refine goes_ Tryd.func24 (by kernel_rfl) rfl #[.int .i64 (wrap64 (Int.tdiv a1 40)), .int .i64 0, .int .i64 9] (by rfl) rfl rfl (by (try simp only [List.map_toArray, List.map_cons, List.map_nil]); first | done | rfl | (simp only [List.length_drop, List.length_take]; rfl)) ?_
        with_reducible refine (broadsidebook_Within.calls (wrap64 (Int.tdiv a1 40)) 0 9 t244 _ A12.out).mono ?_
        rintro e w' ⟨rfl, ⟨nd, rfl⟩⟩
        refine ⟨_, rfl, ?_⟩
        refine hK.out _ _ ⟨(blk_cell BK241.out 0).trans rfl, (blk_cell BK241.out 1).trans rfl, (blk_cell BK241.out 2).trans rfl, (blk_cell BK241.out 3).trans rfl, (blk_cell BK241.out 4).trans rfl⟩ (fun hHeld => ?_)
        clear hK K
        refine norm_ (a' := ?_) ?_ ?_
        rotate_left
        · show Act.put _ (some 30) _ = _
          simp only [Act.put, List.setIfInBounds_toArray, List.set_cons_zero, List.set_cons_succ, i64_w, i32_w]
          rfl
        refine pure_ (i := 5) (N := some 31) (v := ?_) (a' := ?_) #[true, true, true, true, true, true, false, false] rfl rfl (any_of HT_.out (by kernel_rfl)) (fun _ _ _ h => h) (Or.inl ⟨by rfl, ?_⟩) ?_ ?_
        rotate_left
        · intro w'
          go_simp
          with_reducible rfl
        rotate_left
        · simp only [Act.put, List.setIfInBounds_toArray, List.set_cons_zero, List.set_cons_succ, i64_w, i32_w]
          rfl
        refine pure_ (i := 6) (N := some 32) (v := ?_) (a' := ?_) #[true, true, true, true, true, true, true, false] rfl rfl (any_of HT_.out (by kernel_rfl)) (fun _ _ _ h => h) (Or.inl ⟨by rfl, ?_⟩) ?_ ?_
        rotate_left
        · intro w'
          go_simp
          with_reducible rfl
        rotate_left
        · simp only [Act.put, List.setIfInBounds_toArray, List.set_cons_zero, List.set_cons_succ, i64_w, i32_w]
          rfl
        refine last_ (i := 7) (N := none) #[true, true, true, true, true, true, true, true] rfl rfl (one_of HT_.out (by kernel_rfl)) (by decide) (fun K hK => ?_)
        have hs17 : w16.cell? ⟨gb241, 3, none⟩ = some (.int .i64 0) := (blk_cell BK241.out 3).trans rfl
        have hfs17 := blk_frozen BK241.out 3
        have hns17_0 := NB240_241.out
        have hms17_0 := NB241_240.out
        refine skip_ (w1 := ?_) (by rfl) rfl ?_ ?_
        rotate_left
        · go_simp
          rfl
        refine hK.out _ _ ?_
        clear hK K
        refine done_ (done_of HT_.out (by kernel_rfl)) ?_
        have hcz18_0 : w16.cell? ⟨gb241, 0, none⟩ = some (.string a0) := (blk_cell BK241.out 0).trans rfl
        have hcz18_1 : w16.cell? ⟨gb241, 1, none⟩ = some (.int .i64 1) := (blk_cell BK241.out 1).trans rfl
        have hcz18_2 : w16.cell? ⟨gb241, 2, none⟩ = some (.int .i64 t243) := (blk_cell BK241.out 2).trans rfl
        have hcz18_3 : w16.cell? ⟨gb241, 3, none⟩ = some (.int .i64 0) := (blk_cell BK241.out 3).trans rfl
        have hcz18_4 : w16.cell? ⟨gb241, 4, none⟩ = some (.string (⟨#[]⟩ : ByteArray)) := (blk_cell BK241.out 4).trans rfl
        have hfz18_0 := blk_frozen BK241.out 0
        have hfz18_1 := blk_frozen BK241.out 1
        have hfz18_2 := blk_frozen BK241.out 2
        have hfz18_3 := blk_frozen BK241.out 3
        have hfz18_4 := blk_frozen BK241.out 4
        have hcz19_0 : w16.cell? ⟨gb240, 0, none⟩ = some (.string (⟨#[]⟩ : ByteArray)) := (blk_cell BK240.out 0).trans rfl
        have hcz19_1 : w16.cell? ⟨gb240, 1, none⟩ = some (.int .i64 0) := (blk_cell BK240.out 1).trans rfl
        have hcz19_2 : w16.cell? ⟨gb240, 2, none⟩ = some (.int .i64 0) := (blk_cell BK240.out 2).trans rfl
        have hcz19_3 : w16.cell? ⟨gb240, 3, none⟩ = some (.int .i64 0) := (blk_cell BK240.out 3).trans rfl
        have hcz19_4 : w16.cell? ⟨gb240, 4, none⟩ = some (.string (⟨#[]⟩ : ByteArray)) := (blk_cell BK240.out 4).trans rfl
        have hfz19_0 := blk_frozen BK240.out 0
        have hfz19_1 := blk_frozen BK240.out 1
        have hfz19_2 := blk_frozen BK240.out 2
        have hfz19_3 := blk_frozen BK240.out 3
        have hfz19_4 := blk_frozen BK240.out 4
        try go_wp2
        refine bodyPost_ret (results_cell_row rfl _ _ gb240 44 #[.string a0, .int .i64 1, .int .i64 t243, .int .i64 (wrap64 (t243 + t244)), .string (⟨#[]⟩ : ByteArray)] (0, 0) _ rfl (by (with_reducible repeat (first | refine blk_drewN ?_ _ | refine blk_drew ?_ | refine blk_alloc ?_ _)); refine blk_put (cs := #[.string a0, .int .i64 1, .int .i64 t243, .int .i64 (wrap64 (t243 + t244)), .string (⟨#[]⟩ : ByteArray)]) ?_ 4 _ rfl; (with_reducible repeat (first | refine blk_drewN ?_ _ | refine blk_drew ?_ | refine blk_alloc ?_ _)); refine blk_put (cs := #[.string a0, .int .i64 1, .int .i64 t243, .int .i64 0, .string (⟨#[]⟩ : ByteArray)]) ?_ 3 _ rfl; (with_reducible repeat (first | refine blk_drewN ?_ _ | refine blk_drew ?_ | refine blk_alloc ?_ _)); refine blk_put (cs := #[.string a0, .int .i64 1, .int .i64 0, .int .i64 0, .string (⟨#[]⟩ : ByteArray)]) ?_ 2 _ rfl; (with_reducible repeat (first | refine blk_drewN ?_ _ | refine blk_drew ?_ | refine blk_alloc ?_ _)); refine blk_put (cs := #[.string a0, .int .i64 0, .int .i64 0, .int .i64 0, .string (⟨#[]⟩ : ByteArray)]) ?_ 1 _ rfl; (with_reducible repeat (first | refine blk_drewN ?_ _ | refine blk_drew ?_ | refine blk_alloc ?_ _)); refine blk_put (cs := #[.string (⟨#[]⟩ : ByteArray), .int .i64 0, .int .i64 0, .int .i64 0, .string (⟨#[]⟩ : ByteArray)]) ?_ 0 _ rfl; (with_reducible repeat (first | refine blk_drewN ?_ _ | refine blk_drew ?_ | refine blk_alloc ?_ _)); refine blk_far ?_ NB240_241.out _; (with_reducible repeat (first | refine blk_drewN ?_ _ | refine blk_drew ?_ | refine blk_alloc ?_ _)); exact BK240.out) Tryd.underlying44 rfl (by kernel_rfl)) rfl ?_
        exact ⟨by first | rfl | (simp [errW_none, errW_some] <;> rfl) | (simp [*, errW_none, errW_some] <;> rfl), by repeat (first | (with_reducible first | exact HB.out | apply below_alloc | apply pw_below_drewN | apply below_drew1 | refine below_set ?_ GE240.out | refine below_set ?_ GE241.out) | exact HB.out)⟩
      · replace c10 := Bool.eq_false_iff.mpr c10
        subst c10
        have H1 : (if t242 = 2 then ((broadsidekeep_texts.f).bind fun t245 => ((broadsidebook_Within.f (wrap64 (Int.tdiv a1 4)) 0 6).bind fun t248 => (if 0 ≤ t248 then (if t248 < (t245.length : Int) then (some (a0, 2, 0, 0, rdOf ByteArray.empty t245 t248)) else (none)) else (none)))) else ((broadsidekeep_texts.f).bind fun t250 => ((broadsidebook_Within.f (wrap64 (Int.tdiv a1 4)) 0 6).bind fun t253 => (if 0 ≤ t253 then (if t253 < (t250.length : Int) then (some (a0, 3, 0, 0, rdOf ByteArray.empty t250 t253)) else (none)) else (none))))) = some (r1, r2, r3, r4, r5) := by rw [if_neg (show ¬ (false = true) by decide)] at H; exact H
        clear H
        have H := H1
        clear H1
        by_cases c20 : t242 = 2
        · rw [if_pos c20] at H
          have c20b0 : (t242 == 2) = true := beq_iff_eq.mpr c20
          have c20b1 : (t242 != 2) = false := bne_eq_false_iff_eq.mpr c20
          clear c20
          replace H := Option.bind_eq_some_iff.mp H
          obtain ⟨t245, A210, H⟩ := H
          replace H : ((broadsidebook_Within.f (wrap64 (Int.tdiv a1 4)) 0 6).bind fun t248 => (if 0 ≤ t248 then (if t248 < (t245.length : Int) then (some (a0, 2, 0, 0, rdOf ByteArray.empty t245 t248)) else (none)) else (none))) = some (r1, r2, r3, r4, r5) := H
          have A21 := Aside0.mk A210
          clear A210
          replace H := Option.bind_eq_some_iff.mp H
          obtain ⟨t248, A220, H⟩ := H
          replace H : (if 0 ≤ t248 then (if t248 < (t245.length : Int) then (some (a0, 2, 0, 0, rdOf ByteArray.empty t245 t248)) else (none)) else (none)) = some (r1, r2, r3, r4, r5) := H
          have A22 := Aside0.mk A220
          clear A220
          by_cases c23 : 0 ≤ t248
          · rw [if_pos c23] at H
            have c23b0 : decide (0 ≤ t248) = true := decide_eq_true c23
            clear c23
            by_cases c24 : t248 < (t245.length : Int)
            · rw [if_pos c24] at H
              have c24b0 : decide (t248 < (t245.length : Int)) = true := decide_eq_true c24
              clear c24
              simp only [Option.some.injEq, Prod.mk.injEq] at H
              obtain ⟨rfl, rfl, rfl, rfl, rfl⟩ := H
              try go_wp2
              have HG := BK240
              have HR0 := BK241
              have HW := HB
              clear BK240 BK241 HB
              have pT : 0 ≤ (t248 : Int) := of_decide_eq_true c23b0
              have qT : t248 < (t245.length : Int) := of_decide_eq_true c24b0
              refine start_ (n := 10) (S := fun w' => True) (ds := []) #[false, false, false, false, false, false, false, false, false, false] (by kernel_rfl) rfl rfl trivial (fun hHeld => ?_)
              refine with_tabW kc2Reg.tab9 kc2Reg.bits9 (fun HT_ HW_ => ?_)
              refine pure_ (i := 1) (N := some 36) (v := ?_) (a' := ?_) #[false, true, false, false, false, false, false, false, false, false] rfl rfl (any_of HT_.out (by kernel_rfl)) (fun _ _ _ h => h) (Or.inl ⟨by rfl, ?_⟩) ?_ ?_
              rotate_left
              · intro w'
                go_simp
                with_reducible rfl
              rotate_left
              · simp only [Act.put, List.setIfInBounds_toArray, List.set_cons_zero, List.set_cons_succ, i64_w, i32_w]
                rfl
              refine pure_ (i := 2) (N := some 37) (v := ?_) (a' := ?_) #[false, true, true, false, false, false, false, false, false, false] rfl rfl (any_of HT_.out (by kernel_rfl)) (fun _ _ _ h => h) (Or.inl ⟨by rfl, ?_⟩) ?_ ?_
              rotate_left
              · intro w'
                go_simp
                with_reducible rfl
              rotate_left
              · simp only [Act.put, List.setIfInBounds_toArray, List.set_cons_zero, List.set_cons_succ, i64_w, i32_w]
                rfl
              refine pure_ (i := 6) (N := some 41) (v := ?_) (a' := ?_) #[false, true, true, false, false, false, true, false, false, false] rfl rfl (any_of HT_.out (by kernel_rfl)) (fun _ _ _ h => h) (Or.inl ⟨by rfl, ?_⟩) ?_ ?_
              rotate_left
              · intro w'
                go_simp
                with_reducible rfl
              rotate_left
              · simp only [Act.put, List.setIfInBounds_toArray, List.set_cons_zero, List.set_cons_succ, i64_w, i32_w]
                rfl
              refine inv_at [0, 3, 4, 5, 7, 8, 9] (fun a0_ b a w' => ∃ (ad_ : Addr) (c0_ : Nat) (m0_ : Value) (m4_ : Value), a = putSel a0_ b [(0, 35, m0_), (3, 38, .int .i64 t248), (4, 39, m4_), (5, 40, .string (rdOf ByteArray.empty t245 t248)), (8, 42, .pointer (some ⟨gb241, 4, none⟩))] ∧ (Below w.heap.size w w') ∧ (w'.heap[gb240]? = some (.cells #[.string (⟨#[]⟩ : ByteArray), .int .i64 0, .int .i64 0, .int .i64 0, .string (⟨#[]⟩ : ByteArray)] 44 (0, 0))) ∧ (b 7 = false → w'.heap[gb241]? = some (.cells #[.string a0, .int .i64 0, .int .i64 0, .int .i64 0, .string (⟨#[]⟩ : ByteArray)] 44 (0, 0))) ∧ (b 7 = true → b 9 = false → w'.heap[gb241]? = some (.cells #[.string a0, .int .i64 2, .int .i64 0, .int .i64 0, .string (⟨#[]⟩ : ByteArray)] 44 (0, 0))) ∧ (b 9 = true → w'.heap[gb241]? = some (.cells #[.string a0, .int .i64 2, .int .i64 0, .int .i64 0, .string (rdOf ByteArray.empty t245 t248)] 44 (0, 0))) ∧ (b 0 = true → b 5 = false → w'.cell? (ad_.add (t248).toNat) = some (.string (rdOf ByteArray.empty t245 t248)) ∧ (ad_.add (t248).toNat).block ≠ gb241) ∧ (b 0 = true → (m0_ : Value) = .slice (some ad_) t245.length c0_) ∧ (b 4 = true → (m4_ : Value) = .pointer (some (ad_.add (t248).toNat)))) HT_.out HW_.out (by kernel_rfl) (by kernel_rfl) ?_ ?_ ?_
              · exact ⟨⟨0, 0, none⟩, 0, .bool false, .bool false, by simp only [putSel, Bool.false_eq_true, if_false], below_drew HW.out, HG.out, fun _ => HR0.out, fun h_ => absurd h_ (by decide), fun h_ => absurd h_ (by decide), fun h_ => absurd h_ (by decide), fun h_ => absurd h_ (by decide), fun h_ => absurd h_ (by decide)⟩
              · skip
                clear HG HR0 HW
                refine steps_cons ?_ ?_
                · rintro b a w' ⟨ad_, c0_, m0_, m4_, ha, Q_HW, Q_HG, Q_HR0, Q_HR1, Q_HR2, Q_L0, Q_X0_, Q_X4_⟩ hb_ hon hoff
                  refine ⟨_, rfl, fun K hK => ?_⟩
                  replace ha := Aside0.mk ha
                  have HW := Aside0.mk Q_HW
                  have HG := Aside0.mk Q_HG
                  have HR0 := Aside0.mk (Q_HR0 (hoff 7 (by kernel_rfl)))
                  refine goes_ Tryd.func83 (by kernel_rfl) rfl #[] (by rfl) rfl rfl (by simp only [List.map_toArray, List.map_cons, List.map_nil, Act.eval, Array.getD_eq_getD_getElem?, Option.getD_some]) ?_
                  refine (broadsidekeep_texts.calls t245 w' A21.out).mono ?_
                  rintro e w2 ⟨v2, rfl, hR, hB⟩
                  obtain ⟨Ao, co, eo⟩ := Kd.R_slice hR
                  subst eo
                  obtain ⟨ad, eA, hxA⟩ := Kd.at_string (Kd.R_reads' hR).2.2 t248 pT qT
                  subst eA
                  have hne : (ad.add (t248).toNat).block ≠ gb241 := by
                    rw [add_block]
                    intro hE
                    have h1 := Kd.R_base hR _ rfl
                    have h2 := blk_lt HR0.out
                    rw [hE] at h1
                    omega
                  refine ⟨_, rfl, ?_⟩
                  refine hK.out _ _ ⟨ad, co, (.slice (some ad) t245.length co), m4_, (by rw [ha.out]; exact putSel_upk 0 hb_ rfl rfl rfl), below_step HW.out hB, blk_below HG.out hB, fun _ => blk_below HR0.out hB, fun h0_ _ => absurd ((hoff 7 (by kernel_rfl)).symm.trans h0_) (by decide), fun h0_ => absurd ((hoff 9 (by kernel_rfl)).symm.trans h0_) (by decide), fun _ _ => ⟨hxA, hne⟩, fun _ => rfl, fun h0_ => absurd ((hoff 4 (by kernel_rfl)).symm.trans h0_) (by decide)⟩
                refine steps_cons ?_ ?_
                · rintro b a w' ⟨ad_, c0_, m0_, m4_, ha, Q_HW, Q_HG, Q_HR0, Q_HR1, Q_HR2, Q_L0, Q_X0_, Q_X4_⟩ hb_ hon hoff
                  refine ⟨_, rfl, fun K hK => ?_⟩
                  have e37 : a.tmps[37]? = some (.int .i64 (wrap64 (Int.tdiv a1 4))) := by rw [ha]; exact (putSel_off rfl).trans rfl
                  replace ha := Aside0.mk ha
                  have HW := Aside0.mk Q_HW
                  have HG := Aside0.mk Q_HG
                  have HR0 := Aside0.mk (Q_HR0 (hoff 7 (by kernel_rfl)))
                  have L0 := Aside0.mk (Q_L0 (hon 0 (by kernel_rfl)) (hoff 5 (by kernel_rfl)))
                  refine goes_ Tryd.func24 (by kernel_rfl) rfl #[.int .i64 (wrap64 (Int.tdiv a1 4)), .int .i64 0, .int .i64 6] (by rfl) rfl rfl (by simp only [List.map_toArray, List.map_cons, List.map_nil, Act.eval, Array.getD_eq_getD_getElem?, Option.getD_some, e37]) ?_
                  refine (broadsidebook_Within.calls (wrap64 (Int.tdiv a1 4)) 0 6 t248 w' A22.out).mono ?_
                  rintro e w2 ⟨rfl, ⟨nd, rfl⟩⟩
                  refine ⟨_, rfl, ?_⟩
                  refine hK.out _ _ ⟨ad_, c0_, m0_, m4_, (by rw [ha.out]; exact putSel_upk 1 hb_ rfl rfl rfl), pw_below_drewN HW.out nd, blk_drewN HG.out nd, fun _ => blk_drewN HR0.out nd, fun h0_ _ => absurd ((hoff 7 (by kernel_rfl)).symm.trans h0_) (by decide), fun h0_ => absurd ((hoff 9 (by kernel_rfl)).symm.trans h0_) (by decide), fun _ _ => L0.out, Q_X0_, fun h0_ => absurd ((hoff 4 (by kernel_rfl)).symm.trans h0_) (by decide)⟩
                refine steps_cons ?_ ?_
                · rintro b a w' ⟨ad_, c0_, m0_, m4_, ha, Q_HW, Q_HG, Q_HR0, Q_HR1, Q_HR2, Q_L0, Q_X0_, Q_X4_⟩ hb_ hon hoff
                  refine ⟨_, rfl, fun K hK => ?_⟩
                  have e35 : a.tmps[35]? = some (m0_) := by rw [ha]; exact putSel_on (e := (0, 35, m0_)) 0 rfl rfl (hon 0 (by kernel_rfl)) rfl
                  rw [Q_X0_ (hon 0 (by kernel_rfl))] at e35
                  have e38 : a.tmps[38]? = some (.int .i64 t248) := by rw [ha]; exact putSel_on (e := (3, 38, .int .i64 t248)) 1 rfl rfl (hon 3 (by kernel_rfl)) rfl
                  replace ha := Aside0.mk ha
                  have HW := Aside0.mk Q_HW
                  have HG := Aside0.mk Q_HG
                  have L0 := Aside0.mk (Q_L0 (hon 0 (by kernel_rfl)) (hoff 5 (by kernel_rfl)))
                  refine value_ (w1 := w') (v := .pointer (some (ad_.add (t248).toNat))) (by rfl) rfl ?_ ?_
                  · go_simp
                    (try simp only [i64_w])
                    try rfl
                  refine hK.out _ _ ⟨ad_, c0_, m0_, (.pointer (some (ad_.add (t248).toNat))), (by rw [ha.out]; exact putSel_upk 2 hb_ rfl rfl rfl), Q_HW, Q_HG, Q_HR0, Q_HR1, fun h0_ => absurd ((hoff 9 (by kernel_rfl)).symm.trans h0_) (by decide), Q_L0, Q_X0_, fun _ => rfl⟩
                refine steps_cons ?_ ?_
                · rintro b a w' ⟨ad_, c0_, m0_, m4_, ha, Q_HW, Q_HG, Q_HR0, Q_HR1, Q_HR2, Q_L0, Q_X0_, Q_X4_⟩ hb_ hon hoff
                  refine ⟨_, rfl, fun K hK => ?_⟩
                  have e39 : a.tmps[39]? = some (m4_) := by rw [ha]; exact putSel_on (e := (4, 39, m4_)) 2 rfl rfl (hon 4 (by kernel_rfl)) rfl
                  rw [Q_X4_ (hon 4 (by kernel_rfl))] at e39
                  replace ha := Aside0.mk ha
                  have HW := Aside0.mk Q_HW
                  have HG := Aside0.mk Q_HG
                  have L0 := Aside0.mk (Q_L0 (hon 0 (by kernel_rfl)) hb_)
                  have q0 := L0.out.1
                  refine value_ (w1 := w') (v := .string (rdOf ByteArray.empty t245 t248)) (by rfl) rfl ?_ ?_
                  · go_simp
                    (try simp only [i64_w])
                    try rfl
                  refine hK.out _ _ ⟨ad_, c0_, m0_, m4_, (by rw [ha.out]; exact putSel_upk 3 hb_ rfl rfl rfl), Q_HW, Q_HG, Q_HR0, Q_HR1, fun h0_ => absurd ((hoff 9 (by kernel_rfl)).symm.trans h0_) (by decide), fun _ h1_ => absurd ((up_self b 5).symm.trans h1_) (by decide), Q_X0_, Q_X4_⟩
                refine steps_cons ?_ ?_
                · rintro b a w' ⟨ad_, c0_, m0_, m4_, ha, Q_HW, Q_HG, Q_HR0, Q_HR1, Q_HR2, Q_L0, Q_X0_, Q_X4_⟩ hb_ hon hoff
                  refine ⟨_, rfl, fun K hK => ?_⟩
                  have e41 : a.tmps[41]? = some (.pointer (some ⟨gb241, 1, none⟩)) := by rw [ha]; exact (putSel_off rfl).trans rfl
                  replace ha := Aside0.mk ha
                  have HW := Aside0.mk Q_HW
                  have HG := Aside0.mk Q_HG
                  have HR0 := Aside0.mk (Q_HR0 hb_)
                  have z0 := (blk_cell HR0.out 1).trans (rfl : _ = some (Value.int .i64 0))
                  have f0 := blk_frozen HR0.out 1
                  have hl := blk_lt HR0.out
                  refine skip_ (w1 := w'.setCell ⟨gb241, 1, none⟩ (.int .i64 2)) (by rfl) rfl (by go_simp) ?_
                  refine hK.out _ _ ⟨ad_, c0_, m0_, m4_, (by rw [ha.out]; exact putSel_none (v := undef) rfl), below_set HW.out GE241.out, blk_far (p := ⟨gb241, 1, none⟩) HG.out NB240_241.out _, fun h0_ => absurd ((up_self b 7).symm.trans h0_) (by decide), fun _ _ => blk_put HR0.out 1 _ rfl, fun h0_ => absurd ((hoff 9 (by kernel_rfl)).symm.trans h0_) (by decide), fun h0_ h1_ => ⟨(cell_far (p := ⟨gb241, 1, none⟩) (Q_L0 h0_ h1_).2 _).trans (Q_L0 h0_ h1_).1, (Q_L0 h0_ h1_).2⟩, Q_X0_, Q_X4_⟩
                refine steps_cons ?_ ?_
                · rintro b a w' ⟨ad_, c0_, m0_, m4_, ha, Q_HW, Q_HG, Q_HR0, Q_HR1, Q_HR2, Q_L0, Q_X0_, Q_X4_⟩ hb_ hon hoff
                  refine ⟨_, rfl, fun K hK => ?_⟩
                  have e5 : a.tmps[5]? = some (.pointer (some ⟨gb241, 0, none⟩)) := by rw [ha]; exact (putSel_off rfl).trans rfl
                  replace ha := Aside0.mk ha
                  have HW := Aside0.mk Q_HW
                  have HG := Aside0.mk Q_HG
                  have HR1 := Aside0.mk (Q_HR1 (hon 7 (by kernel_rfl)) (hoff 9 (by kernel_rfl)))
                  refine value_ (w1 := w') (v := .pointer (some ⟨gb241, 4, none⟩)) (by rfl) rfl ?_ ?_
                  · go_simp
                    (try simp only [i64_w])
                    try rfl
                  refine hK.out _ _ ⟨ad_, c0_, m0_, m4_, (by rw [ha.out]; exact putSel_upk 4 hb_ rfl rfl rfl), Q_HW, Q_HG, fun h0_ => absurd ((hon 7 (by kernel_rfl)).symm.trans h0_) (by decide), Q_HR1, fun h0_ => absurd ((hoff 9 (by kernel_rfl)).symm.trans h0_) (by decide), fun _ h1_ => absurd ((hon 5 (by kernel_rfl)).symm.trans h1_) (by decide), Q_X0_, Q_X4_⟩
                refine steps_cons ?_ ?_
                · rintro b a w' ⟨ad_, c0_, m0_, m4_, ha, Q_HW, Q_HG, Q_HR0, Q_HR1, Q_HR2, Q_L0, Q_X0_, Q_X4_⟩ hb_ hon hoff
                  refine ⟨_, rfl, fun K hK => ?_⟩
                  have e42 : a.tmps[42]? = some (.pointer (some ⟨gb241, 4, none⟩)) := by rw [ha]; exact putSel_on (e := (8, 42, .pointer (some ⟨gb241, 4, none⟩))) 4 rfl rfl (hon 8 (by kernel_rfl)) rfl
                  have e40 : a.tmps[40]? = some (.string (rdOf ByteArray.empty t245 t248)) := by rw [ha]; exact putSel_on (e := (5, 40, .string (rdOf ByteArray.empty t245 t248))) 3 rfl rfl (hon 5 (by kernel_rfl)) rfl
                  replace ha := Aside0.mk ha
                  have HW := Aside0.mk Q_HW
                  have HG := Aside0.mk Q_HG
                  have HR1 := Aside0.mk (Q_HR1 (hon 7 (by kernel_rfl)) hb_)
                  have z0 := (blk_cell HR1.out 4).trans (rfl : _ = some (Value.string (⟨#[]⟩ : ByteArray)))
                  have f0 := blk_frozen HR1.out 4
                  have hl := blk_lt HR1.out
                  refine skip_ (w1 := w'.setCell ⟨gb241, 4, none⟩ (.string (rdOf ByteArray.empty t245 t248))) (by rfl) rfl (by go_simp) ?_
                  refine hK.out _ _ ⟨ad_, c0_, m0_, m4_, (by rw [ha.out]; exact putSel_none (v := undef) rfl), below_set HW.out GE241.out, blk_far (p := ⟨gb241, 4, none⟩) HG.out NB240_241.out _, fun h0_ => absurd ((hon 7 (by kernel_rfl)).symm.trans h0_) (by decide), fun _ h1_ => absurd ((up_self b 9).symm.trans h1_) (by decide), fun _ => blk_put HR1.out 4 _ rfl, fun _ h1_ => absurd ((hon 5 (by kernel_rfl)).symm.trans h1_) (by decide), Q_X0_, Q_X4_⟩
                exact steps_nil
              · rintro b a w' hall ⟨ad_, c0_, m0_, m4_, ha, Q_HW, Q_HG, Q_HR0, Q_HR1, Q_HR2, Q_L0, Q_X0_, Q_X4_⟩
                clear HG HR0 HW
                have hb0_ := hall 0 (by kernel_rfl)
                have hb3_ := hall 3 (by kernel_rfl)
                have hb4_ := hall 4 (by kernel_rfl)
                have hb5_ := hall 5 (by kernel_rfl)
                have hb7_ := hall 7 (by kernel_rfl)
                have hb8_ := hall 8 (by kernel_rfl)
                have hb9_ := hall 9 (by kernel_rfl)
                subst ha
                obtain rfl := Q_X0_ hb0_
                obtain rfl := Q_X4_ hb4_
                simp only [putSel, hb0_, hb3_, hb4_, hb5_, hb7_, hb8_, hb9_, if_true, Act.put, List.setIfInBounds_toArray, List.set_cons_zero, List.set_cons_succ]
                have HW := Aside0.mk Q_HW
                clear Q_HW
                have HG := Aside0.mk Q_HG
                clear Q_HG
                clear Q_HR0
                clear Q_HR1
                have HR2 := Aside0.mk (Q_HR2 hb9_)
                clear Q_HR2
                clear Q_L0
                clear hall hb0_ hb3_ hb4_ hb5_ hb7_ hb8_ hb9_
                have HRr := HR2.out
                have HGr := HG.out
                have hnb := NB241_240.out
                have hnc := NB240_241.out
                have q0 := (blk_cell HRr 0).trans (rfl : _ = some (Value.string a0))
                have q1 := (blk_cell HRr 1).trans (rfl : _ = some (Value.int .i64 2))
                have q2 := (blk_cell HRr 2).trans (rfl : _ = some (Value.int .i64 0))
                have q3 := (blk_cell HRr 3).trans (rfl : _ = some (Value.int .i64 0))
                have q4 := (blk_cell HRr 4).trans (rfl : _ = some (Value.string (rdOf ByteArray.empty t245 t248)))
                have z0 := (blk_cell HGr 0).trans (rfl : _ = some (Value.string (⟨#[]⟩ : ByteArray)))
                have z1 := (blk_cell HGr 1).trans (rfl : _ = some (Value.int .i64 0))
                have z2 := (blk_cell HGr 2).trans (rfl : _ = some (Value.int .i64 0))
                have z3 := (blk_cell HGr 3).trans (rfl : _ = some (Value.int .i64 0))
                have z4 := (blk_cell HGr 4).trans (rfl : _ = some (Value.string (⟨#[]⟩ : ByteArray)))
                have f0 := blk_frozen HGr 0
                have f1 := blk_frozen HGr 1
                have f2 := blk_frozen HGr 2
                have f3 := blk_frozen HGr 3
                have f4 := blk_frozen HGr 4
                have hl1 := blk_lt HRr
                have hl2 := blk_lt HGr
                have HF := Aside0.mk (blk_put (blk_put (blk_put (blk_put (blk_put HG.out 0 (.string a0) rfl) 1 (.int .i64 2) rfl) 2 (.int .i64 0) rfl) 3 (.int .i64 0) rfl) 4 (.string (rdOf ByteArray.empty t245 t248)) rfl)
                clear HRr HGr
                go_wp2
                refine bodyPost_ret (results_cell_row rfl _ _ gb240 44 #[.string a0, .int .i64 2, .int .i64 0, .int .i64 0, .string (rdOf ByteArray.empty t245 t248)] (0, 0) _ rfl HF.out Tryd.underlying44 rfl (by kernel_rfl)) rfl ?_
                exact ⟨rfl, by repeat (first | exact HW.out | refine below_set ?_ GE240.out)⟩
            · rw [if_neg c24] at H
              exact absurd H (by simp)
          · rw [if_neg c23] at H
            exact absurd H (by simp)
        · rw [if_neg c20] at H
          have c20b0 : (t242 == 2) = false := beq_eq_false_iff_ne.mpr c20
          have c20b1 : (t242 != 2) = true := bne_iff_ne.mpr c20
          replace H := Option.bind_eq_some_iff.mp H
          obtain ⟨t250, A330, H⟩ := H
          replace H : ((broadsidebook_Within.f (wrap64 (Int.tdiv a1 4)) 0 6).bind fun t253 => (if 0 ≤ t253 then (if t253 < (t250.length : Int) then (some (a0, 3, 0, 0, rdOf ByteArray.empty t250 t253)) else (none)) else (none))) = some (r1, r2, r3, r4, r5) := H
          have A33 := Aside0.mk A330
          clear A330
          replace H := Option.bind_eq_some_iff.mp H
          obtain ⟨t253, A340, H⟩ := H
          replace H : (if 0 ≤ t253 then (if t253 < (t250.length : Int) then (some (a0, 3, 0, 0, rdOf ByteArray.empty t250 t253)) else (none)) else (none)) = some (r1, r2, r3, r4, r5) := H
          have A34 := Aside0.mk A340
          clear A340
          by_cases c35 : 0 ≤ t253
          · rw [if_pos c35] at H
            have c35b0 : decide (0 ≤ t253) = true := decide_eq_true c35
            clear c35
            by_cases c36 : t253 < (t250.length : Int)
            · rw [if_pos c36] at H
              have c36b0 : decide (t253 < (t250.length : Int)) = true := decide_eq_true c36
              clear c36
              simp only [Option.some.injEq, Prod.mk.injEq] at H
              obtain ⟨rfl, rfl, rfl, rfl, rfl⟩ := H
              try go_wp2
              have HG := BK240
              have HR0 := BK241
              have HW := HB
              clear BK240 BK241 HB
              have pT : 0 ≤ (t253 : Int) := of_decide_eq_true c35b0
              have qT : t253 < (t250.length : Int) := of_decide_eq_true c36b0
              refine start_ (n := 10) (S := fun w' => True) (ds := []) #[false, false, false, false, false, false, false, false, false, false] (by kernel_rfl) rfl rfl trivial (fun hHeld => ?_)
              refine with_tabW kc3Reg.tab3 kc3Reg.bits3 (fun HT_ HW_ => ?_)
              refine pure_ (i := 1) (N := some 11) (v := ?_) (a' := ?_) #[false, true, false, false, false, false, false, false, false, false] rfl rfl (any_of HT_.out (by kernel_rfl)) (fun _ _ _ h => h) (Or.inl ⟨by rfl, ?_⟩) ?_ ?_
              rotate_left
              · intro w'
                go_simp
                with_reducible rfl
              rotate_left
              · simp only [Act.put, List.setIfInBounds_toArray, List.set_cons_zero, List.set_cons_succ, i64_w, i32_w]
                rfl
              refine pure_ (i := 2) (N := some 12) (v := ?_) (a' := ?_) #[false, true, true, false, false, false, false, false, false, false] rfl rfl (any_of HT_.out (by kernel_rfl)) (fun _ _ _ h => h) (Or.inl ⟨by rfl, ?_⟩) ?_ ?_
              rotate_left
              · intro w'
                go_simp
                with_reducible rfl
              rotate_left
              · simp only [Act.put, List.setIfInBounds_toArray, List.set_cons_zero, List.set_cons_succ, i64_w, i32_w]
                rfl
              refine pure_ (i := 6) (N := some 16) (v := ?_) (a' := ?_) #[false, true, true, false, false, false, true, false, false, false] rfl rfl (any_of HT_.out (by kernel_rfl)) (fun _ _ _ h => h) (Or.inl ⟨by rfl, ?_⟩) ?_ ?_
              rotate_left
              · intro w'
                go_simp
                with_reducible rfl
              rotate_left
              · simp only [Act.put, List.setIfInBounds_toArray, List.set_cons_zero, List.set_cons_succ, i64_w, i32_w]
                rfl
              refine inv_at [0, 3, 4, 5, 7, 8, 9] (fun a0_ b a w' => ∃ (ad_ : Addr) (c0_ : Nat) (m0_ : Value) (m4_ : Value), a = putSel a0_ b [(0, 10, m0_), (3, 13, .int .i64 t253), (4, 14, m4_), (5, 15, .string (rdOf ByteArray.empty t250 t253)), (8, 17, .pointer (some ⟨gb241, 4, none⟩))] ∧ (Below w.heap.size w w') ∧ (w'.heap[gb240]? = some (.cells #[.string (⟨#[]⟩ : ByteArray), .int .i64 0, .int .i64 0, .int .i64 0, .string (⟨#[]⟩ : ByteArray)] 44 (0, 0))) ∧ (b 7 = false → w'.heap[gb241]? = some (.cells #[.string a0, .int .i64 0, .int .i64 0, .int .i64 0, .string (⟨#[]⟩ : ByteArray)] 44 (0, 0))) ∧ (b 7 = true → b 9 = false → w'.heap[gb241]? = some (.cells #[.string a0, .int .i64 3, .int .i64 0, .int .i64 0, .string (⟨#[]⟩ : ByteArray)] 44 (0, 0))) ∧ (b 9 = true → w'.heap[gb241]? = some (.cells #[.string a0, .int .i64 3, .int .i64 0, .int .i64 0, .string (rdOf ByteArray.empty t250 t253)] 44 (0, 0))) ∧ (b 0 = true → b 5 = false → w'.cell? (ad_.add (t253).toNat) = some (.string (rdOf ByteArray.empty t250 t253)) ∧ (ad_.add (t253).toNat).block ≠ gb241) ∧ (b 0 = true → (m0_ : Value) = .slice (some ad_) t250.length c0_) ∧ (b 4 = true → (m4_ : Value) = .pointer (some (ad_.add (t253).toNat)))) HT_.out HW_.out (by kernel_rfl) (by kernel_rfl) ?_ ?_ ?_
              · exact ⟨⟨0, 0, none⟩, 0, .bool false, .bool false, by simp only [putSel, Bool.false_eq_true, if_false], below_drew HW.out, HG.out, fun _ => HR0.out, fun h_ => absurd h_ (by decide), fun h_ => absurd h_ (by decide), fun h_ => absurd h_ (by decide), fun h_ => absurd h_ (by decide), fun h_ => absurd h_ (by decide)⟩
              · skip
                clear HG HR0 HW
                refine steps_cons ?_ ?_
                · rintro b a w' ⟨ad_, c0_, m0_, m4_, ha, Q_HW, Q_HG, Q_HR0, Q_HR1, Q_HR2, Q_L0, Q_X0_, Q_X4_⟩ hb_ hon hoff
                  refine ⟨_, rfl, fun K hK => ?_⟩
                  replace ha := Aside0.mk ha
                  have HW := Aside0.mk Q_HW
                  have HG := Aside0.mk Q_HG
                  have HR0 := Aside0.mk (Q_HR0 (hoff 7 (by kernel_rfl)))
                  refine goes_ Tryd.func83 (by kernel_rfl) rfl #[] (by rfl) rfl rfl (by simp only [List.map_toArray, List.map_cons, List.map_nil, Act.eval, Array.getD_eq_getD_getElem?, Option.getD_some]) ?_
                  refine (broadsidekeep_texts.calls t250 w' A33.out).mono ?_
                  rintro e w2 ⟨v2, rfl, hR, hB⟩
                  obtain ⟨Ao, co, eo⟩ := Kd.R_slice hR
                  subst eo
                  obtain ⟨ad, eA, hxA⟩ := Kd.at_string (Kd.R_reads' hR).2.2 t253 pT qT
                  subst eA
                  have hne : (ad.add (t253).toNat).block ≠ gb241 := by
                    rw [add_block]
                    intro hE
                    have h1 := Kd.R_base hR _ rfl
                    have h2 := blk_lt HR0.out
                    rw [hE] at h1
                    omega
                  refine ⟨_, rfl, ?_⟩
                  refine hK.out _ _ ⟨ad, co, (.slice (some ad) t250.length co), m4_, (by rw [ha.out]; exact putSel_upk 0 hb_ rfl rfl rfl), below_step HW.out hB, blk_below HG.out hB, fun _ => blk_below HR0.out hB, fun h0_ _ => absurd ((hoff 7 (by kernel_rfl)).symm.trans h0_) (by decide), fun h0_ => absurd ((hoff 9 (by kernel_rfl)).symm.trans h0_) (by decide), fun _ _ => ⟨hxA, hne⟩, fun _ => rfl, fun h0_ => absurd ((hoff 4 (by kernel_rfl)).symm.trans h0_) (by decide)⟩
                refine steps_cons ?_ ?_
                · rintro b a w' ⟨ad_, c0_, m0_, m4_, ha, Q_HW, Q_HG, Q_HR0, Q_HR1, Q_HR2, Q_L0, Q_X0_, Q_X4_⟩ hb_ hon hoff
                  refine ⟨_, rfl, fun K hK => ?_⟩
                  have e12 : a.tmps[12]? = some (.int .i64 (wrap64 (Int.tdiv a1 4))) := by rw [ha]; exact (putSel_off rfl).trans rfl
                  replace ha := Aside0.mk ha
                  have HW := Aside0.mk Q_HW
                  have HG := Aside0.mk Q_HG
                  have HR0 := Aside0.mk (Q_HR0 (hoff 7 (by kernel_rfl)))
                  have L0 := Aside0.mk (Q_L0 (hon 0 (by kernel_rfl)) (hoff 5 (by kernel_rfl)))
                  refine goes_ Tryd.func24 (by kernel_rfl) rfl #[.int .i64 (wrap64 (Int.tdiv a1 4)), .int .i64 0, .int .i64 6] (by rfl) rfl rfl (by simp only [List.map_toArray, List.map_cons, List.map_nil, Act.eval, Array.getD_eq_getD_getElem?, Option.getD_some, e12]) ?_
                  refine (broadsidebook_Within.calls (wrap64 (Int.tdiv a1 4)) 0 6 t253 w' A34.out).mono ?_
                  rintro e w2 ⟨rfl, ⟨nd, rfl⟩⟩
                  refine ⟨_, rfl, ?_⟩
                  refine hK.out _ _ ⟨ad_, c0_, m0_, m4_, (by rw [ha.out]; exact putSel_upk 1 hb_ rfl rfl rfl), pw_below_drewN HW.out nd, blk_drewN HG.out nd, fun _ => blk_drewN HR0.out nd, fun h0_ _ => absurd ((hoff 7 (by kernel_rfl)).symm.trans h0_) (by decide), fun h0_ => absurd ((hoff 9 (by kernel_rfl)).symm.trans h0_) (by decide), fun _ _ => L0.out, Q_X0_, fun h0_ => absurd ((hoff 4 (by kernel_rfl)).symm.trans h0_) (by decide)⟩
                refine steps_cons ?_ ?_
                · rintro b a w' ⟨ad_, c0_, m0_, m4_, ha, Q_HW, Q_HG, Q_HR0, Q_HR1, Q_HR2, Q_L0, Q_X0_, Q_X4_⟩ hb_ hon hoff
                  refine ⟨_, rfl, fun K hK => ?_⟩
                  have e10 : a.tmps[10]? = some (m0_) := by rw [ha]; exact putSel_on (e := (0, 10, m0_)) 0 rfl rfl (hon 0 (by kernel_rfl)) rfl
                  rw [Q_X0_ (hon 0 (by kernel_rfl))] at e10
                  have e13 : a.tmps[13]? = some (.int .i64 t253) := by rw [ha]; exact putSel_on (e := (3, 13, .int .i64 t253)) 1 rfl rfl (hon 3 (by kernel_rfl)) rfl
                  replace ha := Aside0.mk ha
                  have HW := Aside0.mk Q_HW
                  have HG := Aside0.mk Q_HG
                  have L0 := Aside0.mk (Q_L0 (hon 0 (by kernel_rfl)) (hoff 5 (by kernel_rfl)))
                  refine value_ (w1 := w') (v := .pointer (some (ad_.add (t253).toNat))) (by rfl) rfl ?_ ?_
                  · go_simp
                    (try simp only [i64_w])
                    try rfl
                  refine hK.out _ _ ⟨ad_, c0_, m0_, (.pointer (some (ad_.add (t253).toNat))), (by rw [ha.out]; exact putSel_upk 2 hb_ rfl rfl rfl), Q_HW, Q_HG, Q_HR0, Q_HR1, fun h0_ => absurd ((hoff 9 (by kernel_rfl)).symm.trans h0_) (by decide), Q_L0, Q_X0_, fun _ => rfl⟩
                refine steps_cons ?_ ?_
                · rintro b a w' ⟨ad_, c0_, m0_, m4_, ha, Q_HW, Q_HG, Q_HR0, Q_HR1, Q_HR2, Q_L0, Q_X0_, Q_X4_⟩ hb_ hon hoff
                  refine ⟨_, rfl, fun K hK => ?_⟩
                  have e14 : a.tmps[14]? = some (m4_) := by rw [ha]; exact putSel_on (e := (4, 14, m4_)) 2 rfl rfl (hon 4 (by kernel_rfl)) rfl
                  rw [Q_X4_ (hon 4 (by kernel_rfl))] at e14
                  replace ha := Aside0.mk ha
                  have HW := Aside0.mk Q_HW
                  have HG := Aside0.mk Q_HG
                  have L0 := Aside0.mk (Q_L0 (hon 0 (by kernel_rfl)) hb_)
                  have q0 := L0.out.1
                  refine value_ (w1 := w') (v := .string (rdOf ByteArray.empty t250 t253)) (by rfl) rfl ?_ ?_
                  · go_simp
                    (try simp only [i64_w])
                    try rfl
                  refine hK.out _ _ ⟨ad_, c0_, m0_, m4_, (by rw [ha.out]; exact putSel_upk 3 hb_ rfl rfl rfl), Q_HW, Q_HG, Q_HR0, Q_HR1, fun h0_ => absurd ((hoff 9 (by kernel_rfl)).symm.trans h0_) (by decide), fun _ h1_ => absurd ((up_self b 5).symm.trans h1_) (by decide), Q_X0_, Q_X4_⟩
                refine steps_cons ?_ ?_
                · rintro b a w' ⟨ad_, c0_, m0_, m4_, ha, Q_HW, Q_HG, Q_HR0, Q_HR1, Q_HR2, Q_L0, Q_X0_, Q_X4_⟩ hb_ hon hoff
                  refine ⟨_, rfl, fun K hK => ?_⟩
                  have e16 : a.tmps[16]? = some (.pointer (some ⟨gb241, 1, none⟩)) := by rw [ha]; exact (putSel_off rfl).trans rfl
                  replace ha := Aside0.mk ha
                  have HW := Aside0.mk Q_HW
                  have HG := Aside0.mk Q_HG
                  have HR0 := Aside0.mk (Q_HR0 hb_)
                  have z0 := (blk_cell HR0.out 1).trans (rfl : _ = some (Value.int .i64 0))
                  have f0 := blk_frozen HR0.out 1
                  have hl := blk_lt HR0.out
                  refine skip_ (w1 := w'.setCell ⟨gb241, 1, none⟩ (.int .i64 3)) (by rfl) rfl (by go_simp) ?_
                  refine hK.out _ _ ⟨ad_, c0_, m0_, m4_, (by rw [ha.out]; exact putSel_none (v := undef) rfl), below_set HW.out GE241.out, blk_far (p := ⟨gb241, 1, none⟩) HG.out NB240_241.out _, fun h0_ => absurd ((up_self b 7).symm.trans h0_) (by decide), fun _ _ => blk_put HR0.out 1 _ rfl, fun h0_ => absurd ((hoff 9 (by kernel_rfl)).symm.trans h0_) (by decide), fun h0_ h1_ => ⟨(cell_far (p := ⟨gb241, 1, none⟩) (Q_L0 h0_ h1_).2 _).trans (Q_L0 h0_ h1_).1, (Q_L0 h0_ h1_).2⟩, Q_X0_, Q_X4_⟩
                refine steps_cons ?_ ?_
                · rintro b a w' ⟨ad_, c0_, m0_, m4_, ha, Q_HW, Q_HG, Q_HR0, Q_HR1, Q_HR2, Q_L0, Q_X0_, Q_X4_⟩ hb_ hon hoff
                  refine ⟨_, rfl, fun K hK => ?_⟩
                  have e5 : a.tmps[5]? = some (.pointer (some ⟨gb241, 0, none⟩)) := by rw [ha]; exact (putSel_off rfl).trans rfl
                  replace ha := Aside0.mk ha
                  have HW := Aside0.mk Q_HW
                  have HG := Aside0.mk Q_HG
                  have HR1 := Aside0.mk (Q_HR1 (hon 7 (by kernel_rfl)) (hoff 9 (by kernel_rfl)))
                  refine value_ (w1 := w') (v := .pointer (some ⟨gb241, 4, none⟩)) (by rfl) rfl ?_ ?_
                  · go_simp
                    (try simp only [i64_w])
                    try rfl
                  refine hK.out _ _ ⟨ad_, c0_, m0_, m4_, (by rw [ha.out]; exact putSel_upk 4 hb_ rfl rfl rfl), Q_HW, Q_HG, fun h0_ => absurd ((hon 7 (by kernel_rfl)).symm.trans h0_) (by decide), Q_HR1, fun h0_ => absurd ((hoff 9 (by kernel_rfl)).symm.trans h0_) (by decide), fun _ h1_ => absurd ((hon 5 (by kernel_rfl)).symm.trans h1_) (by decide), Q_X0_, Q_X4_⟩
                refine steps_cons ?_ ?_
                · rintro b a w' ⟨ad_, c0_, m0_, m4_, ha, Q_HW, Q_HG, Q_HR0, Q_HR1, Q_HR2, Q_L0, Q_X0_, Q_X4_⟩ hb_ hon hoff
                  refine ⟨_, rfl, fun K hK => ?_⟩
                  have e17 : a.tmps[17]? = some (.pointer (some ⟨gb241, 4, none⟩)) := by rw [ha]; exact putSel_on (e := (8, 17, .pointer (some ⟨gb241, 4, none⟩))) 4 rfl rfl (hon 8 (by kernel_rfl)) rfl
                  have e15 : a.tmps[15]? = some (.string (rdOf ByteArray.empty t250 t253)) := by rw [ha]; exact putSel_on (e := (5, 15, .string (rdOf ByteArray.empty t250 t253))) 3 rfl rfl (hon 5 (by kernel_rfl)) rfl
                  replace ha := Aside0.mk ha
                  have HW := Aside0.mk Q_HW
                  have HG := Aside0.mk Q_HG
                  have HR1 := Aside0.mk (Q_HR1 (hon 7 (by kernel_rfl)) hb_)
                  have z0 := (blk_cell HR1.out 4).trans (rfl : _ = some (Value.string (⟨#[]⟩ : ByteArray)))
                  have f0 := blk_frozen HR1.out 4
                  have hl := blk_lt HR1.out
                  refine skip_ (w1 := w'.setCell ⟨gb241, 4, none⟩ (.string (rdOf ByteArray.empty t250 t253))) (by rfl) rfl (by go_simp) ?_
                  refine hK.out _ _ ⟨ad_, c0_, m0_, m4_, (by rw [ha.out]; exact putSel_none (v := undef) rfl), below_set HW.out GE241.out, blk_far (p := ⟨gb241, 4, none⟩) HG.out NB240_241.out _, fun h0_ => absurd ((hon 7 (by kernel_rfl)).symm.trans h0_) (by decide), fun _ h1_ => absurd ((up_self b 9).symm.trans h1_) (by decide), fun _ => blk_put HR1.out 4 _ rfl, fun _ h1_ => absurd ((hon 5 (by kernel_rfl)).symm.trans h1_) (by decide), Q_X0_, Q_X4_⟩
                exact steps_nil
              · rintro b a w' hall ⟨ad_, c0_, m0_, m4_, ha, Q_HW, Q_HG, Q_HR0, Q_HR1, Q_HR2, Q_L0, Q_X0_, Q_X4_⟩
                clear HG HR0 HW
                have hb0_ := hall 0 (by kernel_rfl)
                have hb3_ := hall 3 (by kernel_rfl)
                have hb4_ := hall 4 (by kernel_rfl)
                have hb5_ := hall 5 (by kernel_rfl)
                have hb7_ := hall 7 (by kernel_rfl)
                have hb8_ := hall 8 (by kernel_rfl)
                have hb9_ := hall 9 (by kernel_rfl)
                subst ha
                obtain rfl := Q_X0_ hb0_
                obtain rfl := Q_X4_ hb4_
                simp only [putSel, hb0_, hb3_, hb4_, hb5_, hb7_, hb8_, hb9_, if_true, Act.put, List.setIfInBounds_toArray, List.set_cons_zero, List.set_cons_succ]
                have HW := Aside0.mk Q_HW
                clear Q_HW
                have HG := Aside0.mk Q_HG
                clear Q_HG
                clear Q_HR0
                clear Q_HR1
                have HR2 := Aside0.mk (Q_HR2 hb9_)
                clear Q_HR2
                clear Q_L0
                clear hall hb0_ hb3_ hb4_ hb5_ hb7_ hb8_ hb9_
                have HRr := HR2.out
                have HGr := HG.out
                have hnb := NB241_240.out
                have hnc := NB240_241.out
                have q0 := (blk_cell HRr 0).trans (rfl : _ = some (Value.string a0))
                have q1 := (blk_cell HRr 1).trans (rfl : _ = some (Value.int .i64 3))
                have q2 := (blk_cell HRr 2).trans (rfl : _ = some (Value.int .i64 0))
                have q3 := (blk_cell HRr 3).trans (rfl : _ = some (Value.int .i64 0))
                have q4 := (blk_cell HRr 4).trans (rfl : _ = some (Value.string (rdOf ByteArray.empty t250 t253)))
                have z0 := (blk_cell HGr 0).trans (rfl : _ = some (Value.string (⟨#[]⟩ : ByteArray)))
                have z1 := (blk_cell HGr 1).trans (rfl : _ = some (Value.int .i64 0))
                have z2 := (blk_cell HGr 2).trans (rfl : _ = some (Value.int .i64 0))
                have z3 := (blk_cell HGr 3).trans (rfl : _ = some (Value.int .i64 0))
                have z4 := (blk_cell HGr 4).trans (rfl : _ = some (Value.string (⟨#[]⟩ : ByteArray)))
                have f0 := blk_frozen HGr 0
                have f1 := blk_frozen HGr 1
                have f2 := blk_frozen HGr 2
                have f3 := blk_frozen HGr 3
                have f4 := blk_frozen HGr 4
                have hl1 := blk_lt HRr
                have hl2 := blk_lt HGr
                have HF := Aside0.mk (blk_put (blk_put (blk_put (blk_put (blk_put HG.out 0 (.string a0) rfl) 1 (.int .i64 3) rfl) 2 (.int .i64 0) rfl) 3 (.int .i64 0) rfl) 4 (.string (rdOf ByteArray.empty t250 t253)) rfl)
                clear HRr HGr
                go_wp2
                refine bodyPost_ret (results_cell_row rfl _ _ gb240 44 #[.string a0, .int .i64 3, .int .i64 0, .int .i64 0, .string (rdOf ByteArray.empty t250 t253)] (0, 0) _ rfl HF.out Tryd.underlying44 rfl (by kernel_rfl)) rfl ?_
                exact ⟨rfl, by repeat (first | exact HW.out | refine below_set ?_ GE240.out)⟩
            · rw [if_neg c36] at H
              exact absurd H (by simp)
          · rw [if_neg c35] at H
            exact absurd H (by simp)

/-! ### broadsidekeep_pick: function 49 -/
def broadsidekeep_pick.f (l0 : List Int) (a1 : Int) : Option (Int) := if (l0.length : Int) = 0 then (some 0) else (if 0 ≤ (Int.tmod a1 (l0.length : Int)) then (if (Int.tmod a1 (l0.length : Int)) < (l0.length : Int) then (some (rd l0 (Int.tmod a1 (l0.length : Int)))) else (none)) else (none))
set_option maxHeartbeats 8000000 in
set_option maxRecDepth 100000 in
theorem broadsidekeep_pick.calls (A0 : Option Addr) (c0 : Nat) (l0 : List Int) (a1 : Int) (r : Int) (w : World) (hr0 : Kd.C (Kd.int .i64) w A0 l0.length l0) (hc0 : l0.length ≤ c0) (h : broadsidekeep_pick.f l0 a1 = some r) :
    Calls Tryd.prog 49 #[.slice A0 l0.length c0, .int .i64 a1] w fun e w' => e = .returned (.int .i64 r) ∧ Drawn0 w w' := by
  have HR0 := Aside0.mk hr0
  have HC0 := Aside0.mk hc0
  clear hr0 hc0
  have H : (if (l0.length : Int) = 0 then (some 0) else (if 0 ≤ (Int.tmod a1 (l0.length : Int)) then (if (Int.tmod a1 (l0.length : Int)) < (l0.length : Int) then (some (rd l0 (Int.tmod a1 (l0.length : Int)))) else (none)) else (none))) = some r := h
  clear h
  by_cases c3 : (l0.length : Int) = 0
  · rw [if_pos c3] at H
    have c3b0 : ((l0.length : Int) == 0) = true := beq_iff_eq.mpr c3
    have c3b1 : ((l0.length : Int) != 0) = false := bne_eq_false_iff_eq.mpr c3
    clear c3
    obtain rfl := Option.some.inj H
    go_enter Tryd.func49, Tryd.ntmps49
    go_wp2
    go_ret
    exact ⟨by first | rfl | (simp; done) | (simp [*]; done), by repeat (first | exact Drawn0.refl _ | apply Drawn0.step)⟩
  · rw [if_neg c3] at H
    have c3b0 : ((l0.length : Int) == 0) = false := beq_eq_false_iff_ne.mpr c3
    have c3b1 : ((l0.length : Int) != 0) = true := bne_iff_ne.mpr c3
    have c3b2 : ¬ (l0 = []) := fun h_ => c3 (by rw [h_]; rfl)
    obtain ⟨ji4, hji4⟩ : ∃ j_ : Int, (Int.tmod a1 (l0.length : Int)) = j_ := ⟨_, rfl⟩
    replace H : (if 0 ≤ (ji4) then (if (ji4) < (l0.length : Int) then (some (rd l0 (ji4))) else (none)) else (none)) = some r := by first | (rw [hji4] at H; exact H) | (simp only [hji4] at H ⊢; exact H)
    by_cases c5 : 0 ≤ (ji4)
    · rw [if_pos c5] at H
      have c5b0 : decide (0 ≤ (ji4)) = true := decide_eq_true c5
      clear c5
      by_cases c6 : (ji4) < (l0.length : Int)
      · rw [if_pos c6] at H
        have c6b0 : decide ((ji4) < (l0.length : Int)) = true := decide_eq_true c6
        clear c6
        obtain rfl := Option.some.inj H
        have p255 : 0 ≤ ((ji4) : Int) := of_decide_eq_true (by first | (with_reducible assumption) | assumption)
        have q255 : (ji4) < (l0.length : Int) := of_decide_eq_true (by first | (with_reducible assumption) | assumption)
        obtain ⟨ad255, e255, hx255_0⟩ := Kd.at_int HR0.out (ji4) p255 q255
        cases e255
        replace p255 := eq_true p255
        replace q255 := eq_true q255
        go_enter Tryd.func49, Tryd.ntmps49
        go_wp2
        go_ret
        exact ⟨by first | rfl | (simp; done) | (simp only [← hji4] <;> (first | rfl | simp)) | (simp [*]; done), by repeat (first | exact Drawn0.refl _ | apply Drawn0.step)⟩
      · rw [if_neg c6] at H
        exact absurd H (by simp)
    · rw [if_neg c5] at H
      exact absurd H (by simp)

end Go.Proofs.YtbplemhjhpfkgaaDoor.PCodeKinds

/-
  broadsidelaw23.asked: an operation with just what its kind asks.
-/
import Derived.Test.YtbplemhjhpfkgaaDoorProg
import Derived.Test.YtbplemhjhpfkgaaDoorSlim
import Derived.Test.YtbplemhjhpfkgaaDoorWTab
import Derived.Test.YtbplemhjhpfkgaaDoorWGuard
import Derived.WalkKit
import Derived.Lib.Hide
import Derived.Test.YtbplemhjhpfkgaaDoorAsks
namespace Go.Proofs.YtbplemhjhpfkgaaDoor.Cd
open Go.RowKit Go.Proofs.YtbplemhjhpfkgaaDoorW.PrintWords Go.Proofs.YtbplemhjhpfkgaaDoorW.PrintLast Go.Proofs.YtbplemhjhpfkgaaDoorW.PrintMore
set_option linter.unusedVariables false
set_option linter.unusedSimpArgs false
def askd2Reg.T7 : Bool × List (List Nat × List Nat) := (true, [([], []), ([0], [0]), ([], []), ([2], [2]), ([0, 1], []), ([4, 1, 0, 1], [1, 4]), ([0, 1, 2, 3, 4, 5], []), ([6, 3, 5, 0, 1, 2, 3, 4, 5], [3, 6])])
def askd2Reg.B7 : List Nat := [0, 1, 0, 4, 3, 19, 63, 127]
theorem askd2Reg.tab7 : rtab .any (opsOf Tryd.f18 7) = askd2Reg.T7 := by kernel_rfl
theorem askd2Reg.bits7 : waitsOk askd2Reg.T7.2 askd2Reg.B7 = true := by kernel_rfl
def askd4Reg.T7 : Bool × List (List Nat × List Nat) := (true, [([], []), ([0], [0]), ([], []), ([2], [2]), ([0, 1], []), ([4, 1, 0, 1], [1, 4]), ([0, 1, 2, 3, 4, 5], []), ([6, 3, 5, 0, 1, 2, 3, 4, 5], [3, 6])])
def askd4Reg.B7 : List Nat := [0, 1, 0, 4, 3, 19, 63, 127]
theorem askd4Reg.tab7 : rtab .any (opsOf Tryd.f18 7) = askd4Reg.T7 := by kernel_rfl
theorem askd4Reg.bits7 : waitsOk askd4Reg.T7.2 askd4Reg.B7 = true := by kernel_rfl
def askd3Reg.T10 : Bool × List (List Nat × List Nat) := (true, [([], []), ([0], [0]), ([], []), ([2], [2]), ([0, 1], []), ([4, 1, 0, 1], [1, 4]), ([0, 1, 2, 3, 4, 5], []), ([6, 3, 5, 0, 1, 2, 3, 4, 5], [3, 6])])
def askd3Reg.B10 : List Nat := [0, 1, 0, 4, 3, 19, 63, 127]
theorem askd3Reg.tab10 : rtab .any (opsOf Tryd.f18 10) = askd3Reg.T10 := by kernel_rfl
theorem askd3Reg.bits10 : waitsOk askd3Reg.T10.2 askd3Reg.B10 = true := by kernel_rfl
def askd5Reg.T10 : Bool × List (List Nat × List Nat) := (true, [([], []), ([0], [0]), ([], []), ([2], [2]), ([0, 1], []), ([4, 1, 0, 1], [1, 4]), ([0, 1, 2, 3, 4, 5], []), ([6, 3, 5, 0, 1, 2, 3, 4, 5], [3, 6])])
def askd5Reg.B10 : List Nat := [0, 1, 0, 4, 3, 19, 63, 127]
theorem askd5Reg.tab10 : rtab .any (opsOf Tryd.f18 10) = askd5Reg.T10 := by kernel_rfl
theorem askd5Reg.bits10 : waitsOk askd5Reg.T10.2 askd5Reg.B10 = true := by kernel_rfl
def askd6Reg.T12 : Bool × List (List Nat × List Nat) := (true, [([], []), ([0], [0]), ([], []), ([2], [2]), ([], []), ([4], [4]), ([0, 1], []), ([6, 1, 0, 1], [1, 6]), ([0, 1, 2, 3, 6, 7], []), ([8, 3, 7, 0, 1, 2, 3, 6, 7], [3, 8]), ([0, 1, 2, 3, 4, 5, 6, 7, 8, 9], []), ([10, 5, 9, 0, 1, 2, 3, 4, 5, 6, 7, 8, 9], [5, 10])])
def askd6Reg.B12 : List Nat := [0, 1, 0, 4, 0, 16, 3, 67, 207, 463, 1023, 2047]
theorem askd6Reg.tab12 : rtab .any (opsOf Tryd.f18 12) = askd6Reg.T12 := by kernel_rfl
theorem askd6Reg.bits12 : waitsOk askd6Reg.T12.2 askd6Reg.B12 = true := by kernel_rfl
def askd8Reg.T16 : Bool × List (List Nat × List Nat) := (true, [([], []), ([0], [0]), ([], []), ([2], [2]), ([0, 1], []), ([4, 1, 0, 1], [1, 4]), ([0, 1, 2, 3, 4, 5], []), ([6, 3, 5, 0, 1, 2, 3, 4, 5], [3, 6])])
def askd8Reg.B16 : List Nat := [0, 1, 0, 4, 3, 19, 63, 127]
theorem askd8Reg.tab16 : rtab .any (opsOf Tryd.f18 16) = askd8Reg.T16 := by kernel_rfl
theorem askd8Reg.bits16 : waitsOk askd8Reg.T16.2 askd8Reg.B16 = true := by kernel_rfl
def askd9Reg.T18 : Bool × List (List Nat × List Nat) := (true, [([], []), ([0], [0]), ([], []), ([2], [2]), ([], []), ([4], [4]), ([0, 1], []), ([6, 1, 0, 1], [1, 6]), ([0, 1, 2, 3, 6, 7], []), ([8, 3, 7, 0, 1, 2, 3, 6, 7], [3, 8]), ([0, 1, 2, 3, 4, 5, 6, 7, 8, 9], []), ([10, 5, 9, 0, 1, 2, 3, 4, 5, 6, 7, 8, 9], [5, 10])])
def askd9Reg.B18 : List Nat := [0, 1, 0, 4, 0, 16, 3, 67, 207, 463, 1023, 2047]
theorem askd9Reg.tab18 : rtab .any (opsOf Tryd.f18 18) = askd9Reg.T18 := by kernel_rfl
theorem askd9Reg.bits18 : waitsOk askd9Reg.T18.2 askd9Reg.B18 = true := by kernel_rfl

set_option maxRecDepth 100000 in
set_option maxHeartbeats 4000000 in
theorem asked_9 (kc kq kh ka kt : Int) (A6 : Option Addr) (n6 m6 : Nat) (A7 : Option Addr) (n7 m7 : Nat) (A8 : Option Addr) (n8 m8 : Nat) (w : World) :
    Calls Tryd.prog 18 #[opV 9 kc kq kh ka kt A6 n6 m6 A7 n7 m7 A8 n8 m8] w fun e w' => e = .returned  (opV 9 0 0 0 ka kt none 0 0 none 0 0 A8 n8 m8) ∧ Below w.heap.size w w' := by
  have HG := Aside0.mk (blk_alloc (blk_alloc (blk_new w (.cells #[.int .i64 9, .int .i64 kc, .int .i64 kq, .int .i64 kh, .int .i64 ka, .int .i64 kt, .slice A6 n6 m6, .slice A7 n7 m7, .slice A8 n8 m8] 30)) (.cells #[.int .i64 0, .int .i64 0, .int .i64 0, .int .i64 0, .int .i64 0, .int .i64 0, .slice none 0 0, .slice none 0 0, .slice none 0 0] 30)) (.cells #[.int .i64 9, .int .i64 0, .int .i64 0, .int .i64 0, .int .i64 0, .int .i64 0, .slice none 0 0, .slice none 0 0, .slice none 0 0] 30))
  have hn : ((w.alloc (.cells #[.int .i64 9, .int .i64 kc, .int .i64 kq, .int .i64 kh, .int .i64 ka, .int .i64 kt, .slice A6 n6 m6, .slice A7 n7 m7, .slice A8 n8 m8] 30)).alloc (.cells #[.int .i64 0, .int .i64 0, .int .i64 0, .int .i64 0, .int .i64 0, .int .i64 0, .slice none 0 0, .slice none 0 0, .slice none 0 0] 30)).heap.size = w.heap.size + 1 + 1 := by simp
  have H0 := Aside0.mk (blk_new ((w.alloc (.cells #[.int .i64 9, .int .i64 kc, .int .i64 kq, .int .i64 kh, .int .i64 ka, .int .i64 kt, .slice A6 n6 m6, .slice A7 n7 m7, .slice A8 n8 m8] 30)).alloc (.cells #[.int .i64 0, .int .i64 0, .int .i64 0, .int .i64 0, .int .i64 0, .int .i64 0, .slice none 0 0, .slice none 0 0, .slice none 0 0] 30)) (.cells #[.int .i64 9, .int .i64 0, .int .i64 0, .int .i64 0, .int .i64 0, .int .i64 0, .slice none 0 0, .slice none 0 0, .slice none 0 0] 30))
  rw [hn] at H0
  have HR := blk_alloc (blk_new (w.alloc (.cells #[.int .i64 9, .int .i64 kc, .int .i64 kq, .int .i64 kh, .int .i64 ka, .int .i64 kt, .slice A6 n6 m6, .slice A7 n7 m7, .slice A8 n8 m8] 30)) (.cells #[.int .i64 0, .int .i64 0, .int .i64 0, .int .i64 0, .int .i64 0, .int .i64 0, .slice none 0 0, .slice none 0 0, .slice none 0 0] 30)) (.cells #[.int .i64 9, .int .i64 0, .int .i64 0, .int .i64 0, .int .i64 0, .int .i64 0, .slice none 0 0, .slice none 0 0, .slice none 0 0] 30)
  rw [show (w.alloc (.cells #[.int .i64 9, .int .i64 kc, .int .i64 kq, .int .i64 kh, .int .i64 ka, .int .i64 kt, .slice A6 n6 m6, .slice A7 n7 m7, .slice A8 n8 m8] 30)).heap.size = w.heap.size + 1 by simp] at HR
  replace HR := Aside0.mk HR
  have HW := Aside0.mk (below_alloc (below_alloc (below_alloc (Below.refl w.heap.size w) (.cells #[.int .i64 9, .int .i64 kc, .int .i64 kq, .int .i64 kh, .int .i64 ka, .int .i64 kt, .slice A6 n6 m6, .slice A7 n7 m7, .slice A8 n8 m8] 30)) (.cells #[.int .i64 0, .int .i64 0, .int .i64 0, .int .i64 0, .int .i64 0, .int .i64 0, .slice none 0 0, .slice none 0 0, .slice none 0 0] 30)) (.cells #[.int .i64 9, .int .i64 0, .int .i64 0, .int .i64 0, .int .i64 0, .int .i64 0, .slice none 0 0, .slice none 0 0, .slice none 0 0] 30))
  clear hn
  go_enter Tryd.func18, Tryd.ntmps18
  go_upto_region 18 with fail
  refine start_ (n := 12) (S := fun w' => True) (ds := []) #[false, false, false, false, false, false, false, false, false, false, false, false] (by kernel_rfl) rfl rfl trivial (fun hHeld => ?_)
  refine with_tabW askd9Reg.tab18 askd9Reg.bits18 (fun HT_ HW_ => ?_)
  refine pure_ (i := 0) (N := some 58) (v := ?_) (a' := ?_) #[true, false, false, false, false, false, false, false, false, false, false, false] rfl rfl (any_of HT_.out (by kernel_rfl)) (fun _ _ _ h => h) (Or.inl ⟨by rfl, ?_⟩) ?_ ?_
  rotate_left
  · intro w'
    go_simp
    with_reducible rfl
  rotate_left
  · simp only [Act.put, List.setIfInBounds_toArray, List.set_cons_zero, List.set_cons_succ, i64_w, i32_w]
    rfl
  refine pure_ (i := 2) (N := some 60) (v := ?_) (a' := ?_) #[true, false, true, false, false, false, false, false, false, false, false, false] rfl rfl (any_of HT_.out (by kernel_rfl)) (fun _ _ _ h => h) (Or.inl ⟨by rfl, ?_⟩) ?_ ?_
  rotate_left
  · intro w'
    go_simp
    with_reducible rfl
  rotate_left
  · simp only [Act.put, List.setIfInBounds_toArray, List.set_cons_zero, List.set_cons_succ, i64_w, i32_w]
    rfl
  refine pure_ (i := 4) (N := some 62) (v := ?_) (a' := ?_) #[true, false, true, false, true, false, false, false, false, false, false, false] rfl rfl (any_of HT_.out (by kernel_rfl)) (fun _ _ _ h => h) (Or.inl ⟨by rfl, ?_⟩) ?_ ?_
  rotate_left
  · intro w'
    go_simp
    with_reducible rfl
  rotate_left
  · simp only [Act.put, List.setIfInBounds_toArray, List.set_cons_zero, List.set_cons_succ, i64_w, i32_w]
    rfl
  refine inv_at [1, 3, 5, 6, 7, 8, 9, 10, 11] (fun a0_ b a w' => a = putSel a0_ b [(1, 59, .int .i64 ka), (3, 61, .int .i64 kt), (5, 63, .slice A8 n8 m8), (6, 64, .pointer (some ⟨w.heap.size + 1 + 1, 4, none⟩)), (8, 65, .pointer (some ⟨w.heap.size + 1 + 1, 5, none⟩)), (10, 66, .pointer (some ⟨w.heap.size + 1 + 1, 8, none⟩))] ∧ (Below w.heap.size w w') ∧ (w'.heap[w.heap.size]? = some (.cells #[.int .i64 9, .int .i64 kc, .int .i64 kq, .int .i64 kh, .int .i64 ka, .int .i64 kt, .slice A6 n6 m6, .slice A7 n7 m7, .slice A8 n8 m8] 30 (0, 0))) ∧ (w'.heap[w.heap.size + 1]? = some (.cells #[.int .i64 0, .int .i64 0, .int .i64 0, .int .i64 0, .int .i64 0, .int .i64 0, .slice none 0 0, .slice none 0 0, .slice none 0 0] 30 (0, 0))) ∧ (b 7 = false → w'.heap[w.heap.size + 1 + 1]? = some (.cells #[.int .i64 9, .int .i64 0, .int .i64 0, .int .i64 0, .int .i64 0, .int .i64 0, .slice none 0 0, .slice none 0 0, .slice none 0 0] 30 (0, 0))) ∧ (b 7 = true → b 9 = false → w'.heap[w.heap.size + 1 + 1]? = some (.cells #[.int .i64 9, .int .i64 0, .int .i64 0, .int .i64 0, .int .i64 ka, .int .i64 0, .slice none 0 0, .slice none 0 0, .slice none 0 0] 30 (0, 0))) ∧ (b 9 = true → b 11 = false → w'.heap[w.heap.size + 1 + 1]? = some (.cells #[.int .i64 9, .int .i64 0, .int .i64 0, .int .i64 0, .int .i64 ka, .int .i64 kt, .slice none 0 0, .slice none 0 0, .slice none 0 0] 30 (0, 0))) ∧ (b 11 = true → w'.heap[w.heap.size + 1 + 1]? = some (.cells #[.int .i64 9, .int .i64 0, .int .i64 0, .int .i64 0, .int .i64 ka, .int .i64 kt, .slice none 0 0, .slice none 0 0, .slice A8 n8 m8] 30 (0, 0)))) HT_.out HW_.out (by kernel_rfl) (by kernel_rfl) ?_ ?_ ?_
  · exact ⟨by simp only [putSel, Bool.false_eq_true, if_false], below_drew HW.out, HG.out, HR.out, fun _ => H0.out, fun h_ => absurd h_ (by decide), fun h_ => absurd h_ (by decide), fun h_ => absurd h_ (by decide)⟩
  · skip
    clear H0 HG HR HW
    refine steps_cons ?_ ?_
    · rintro b a w' ⟨ha, Q_HW, Q_HG, Q_HR, Q_H0, Q_H1, Q_H2, Q_H3⟩ hb_ hon hoff
      refine ⟨_, rfl, fun K hK => ?_⟩
      have e58 : a.tmps[58]? = some (.pointer (some ⟨w.heap.size, 4, none⟩)) := by rw [ha]; exact (putSel_off rfl).trans rfl
      replace ha := Aside0.mk ha
      have HW := Aside0.mk Q_HW
      have HG := Aside0.mk Q_HG
      have HR := Aside0.mk Q_HR
      have H0 := Aside0.mk (Q_H0 (hoff 7 (by kernel_rfl)))
      have q0 := (blk_cell HG.out 4).trans (rfl : _ = some (Value.int .i64 ka))
      refine value_ (w1 := w') (v := .int .i64 ka) (by rfl) rfl ?_ ?_
      · go_simp
        (try simp only [i64_w])
        try rfl
      refine hK.out _ _ ⟨(by rw [ha.out]; exact putSel_upk 0 hb_ rfl rfl rfl), Q_HW, Q_HG, Q_HR, Q_H0, fun h0_ _ => absurd ((hoff 7 (by kernel_rfl)).symm.trans h0_) (by decide), fun h0_ _ => absurd ((hoff 9 (by kernel_rfl)).symm.trans h0_) (by decide), fun h0_ => absurd ((hoff 11 (by kernel_rfl)).symm.trans h0_) (by decide)⟩
    refine steps_cons ?_ ?_
    · rintro b a w' ⟨ha, Q_HW, Q_HG, Q_HR, Q_H0, Q_H1, Q_H2, Q_H3⟩ hb_ hon hoff
      refine ⟨_, rfl, fun K hK => ?_⟩
      have e60 : a.tmps[60]? = some (.pointer (some ⟨w.heap.size, 5, none⟩)) := by rw [ha]; exact (putSel_off rfl).trans rfl
      replace ha := Aside0.mk ha
      have HW := Aside0.mk Q_HW
      have HG := Aside0.mk Q_HG
      have HR := Aside0.mk Q_HR
      have q0 := (blk_cell HG.out 5).trans (rfl : _ = some (Value.int .i64 kt))
      refine value_ (w1 := w') (v := .int .i64 kt) (by rfl) rfl ?_ ?_
      · go_simp
        (try simp only [i64_w])
        try rfl
      refine hK.out _ _ ⟨(by rw [ha.out]; exact putSel_upk 1 hb_ rfl rfl rfl), Q_HW, Q_HG, Q_HR, Q_H0, Q_H1, fun h0_ _ => absurd ((hoff 9 (by kernel_rfl)).symm.trans h0_) (by decide), fun h0_ => absurd ((hoff 11 (by kernel_rfl)).symm.trans h0_) (by decide)⟩
    refine steps_cons ?_ ?_
    · rintro b a w' ⟨ha, Q_HW, Q_HG, Q_HR, Q_H0, Q_H1, Q_H2, Q_H3⟩ hb_ hon hoff
      refine ⟨_, rfl, fun K hK => ?_⟩
      have e62 : a.tmps[62]? = some (.pointer (some ⟨w.heap.size, 8, none⟩)) := by rw [ha]; exact (putSel_off rfl).trans rfl
      replace ha := Aside0.mk ha
      have HW := Aside0.mk Q_HW
      have HG := Aside0.mk Q_HG
      have HR := Aside0.mk Q_HR
      have q0 := (blk_cell HG.out 8).trans (rfl : _ = some (Value.slice A8 n8 m8))
      refine value_ (w1 := w') (v := .slice A8 n8 m8) (by rfl) rfl ?_ ?_
      · go_simp
        (try simp only [i64_w])
        try rfl
      refine hK.out _ _ ⟨(by rw [ha.out]; exact putSel_upk 2 hb_ rfl rfl rfl), Q_HW, Q_HG, Q_HR, Q_H0, Q_H1, Q_H2, fun h0_ => absurd ((hoff 11 (by kernel_rfl)).symm.trans h0_) (by decide)⟩
    refine steps_cons ?_ ?_
    · rintro b a w' ⟨ha, Q_HW, Q_HG, Q_HR, Q_H0, Q_H1, Q_H2, Q_H3⟩ hb_ hon hoff
      refine ⟨_, rfl, fun K hK => ?_⟩
      have e3 : a.tmps[3]? = some (.pointer (some ⟨w.heap.size + 1 + 1, 0, none⟩)) := by rw [ha]; exact (putSel_off rfl).trans rfl
      replace ha := Aside0.mk ha
      have HW := Aside0.mk Q_HW
      have HG := Aside0.mk Q_HG
      have HR := Aside0.mk Q_HR
      have H0 := Aside0.mk (Q_H0 (hoff 7 (by kernel_rfl)))
      refine value_ (w1 := w') (v := .pointer (some ⟨w.heap.size + 1 + 1, 4, none⟩)) (by rfl) rfl ?_ ?_
      · go_simp
        (try simp only [i64_w])
        try rfl
      refine hK.out _ _ ⟨(by rw [ha.out]; exact putSel_upk 3 hb_ rfl rfl rfl), Q_HW, Q_HG, Q_HR, Q_H0, fun h0_ _ => absurd ((hoff 7 (by kernel_rfl)).symm.trans h0_) (by decide), fun h0_ _ => absurd ((hoff 9 (by kernel_rfl)).symm.trans h0_) (by decide), fun h0_ => absurd ((hoff 11 (by kernel_rfl)).symm.trans h0_) (by decide)⟩
    refine steps_cons ?_ ?_
    · rintro b a w' ⟨ha, Q_HW, Q_HG, Q_HR, Q_H0, Q_H1, Q_H2, Q_H3⟩ hb_ hon hoff
      refine ⟨_, rfl, fun K hK => ?_⟩
      have e64 : a.tmps[64]? = some (.pointer (some ⟨w.heap.size + 1 + 1, 4, none⟩)) := by rw [ha]; exact putSel_on (e := (6, 64, .pointer (some ⟨w.heap.size + 1 + 1, 4, none⟩))) 3 rfl rfl (hon 6 (by kernel_rfl)) rfl
      have e59 : a.tmps[59]? = some (.int .i64 ka) := by rw [ha]; exact putSel_on (e := (1, 59, .int .i64 ka)) 0 rfl rfl (hon 1 (by kernel_rfl)) rfl
      replace ha := Aside0.mk ha
      have HW := Aside0.mk Q_HW
      have HG := Aside0.mk Q_HG
      have HR := Aside0.mk Q_HR
      have H0 := Aside0.mk (Q_H0 hb_)
      have z0 := (blk_cell H0.out 4).trans (rfl : _ = some (Value.int .i64 0))
      have f0 := blk_frozen H0.out 4
      have hl := blk_lt H0.out
      refine skip_ (w1 := w'.setCell ⟨w.heap.size + 1 + 1, 4, none⟩ (.int .i64 ka)) (by rfl) rfl (by go_simp) ?_
      refine hK.out _ _ ⟨(by rw [ha.out]; exact putSel_none (v := undef) rfl), below_set HW.out (by show w.heap.size ≤ w.heap.size + 1 + 1; omega), blk_far (p := ⟨w.heap.size + 1 + 1, 4, none⟩) HG.out (by show w.heap.size ≠ w.heap.size + 1 + 1; omega) _, blk_far (p := ⟨w.heap.size + 1 + 1, 4, none⟩) HR.out (by show w.heap.size + 1 ≠ w.heap.size + 1 + 1; omega) _, fun h0_ => absurd ((up_self b 7).symm.trans h0_) (by decide), fun _ _ => blk_put H0.out 4 _ rfl, fun h0_ _ => absurd ((hoff 9 (by kernel_rfl)).symm.trans h0_) (by decide), fun h0_ => absurd ((hoff 11 (by kernel_rfl)).symm.trans h0_) (by decide)⟩
    refine steps_cons ?_ ?_
    · rintro b a w' ⟨ha, Q_HW, Q_HG, Q_HR, Q_H0, Q_H1, Q_H2, Q_H3⟩ hb_ hon hoff
      refine ⟨_, rfl, fun K hK => ?_⟩
      have e3 : a.tmps[3]? = some (.pointer (some ⟨w.heap.size + 1 + 1, 0, none⟩)) := by rw [ha]; exact (putSel_off rfl).trans rfl
      replace ha := Aside0.mk ha
      have HW := Aside0.mk Q_HW
      have HG := Aside0.mk Q_HG
      have HR := Aside0.mk Q_HR
      have H1 := Aside0.mk (Q_H1 (hon 7 (by kernel_rfl)) (hoff 9 (by kernel_rfl)))
      refine value_ (w1 := w') (v := .pointer (some ⟨w.heap.size + 1 + 1, 5, none⟩)) (by rfl) rfl ?_ ?_
      · go_simp
        (try simp only [i64_w])
        try rfl
      refine hK.out _ _ ⟨(by rw [ha.out]; exact putSel_upk 4 hb_ rfl rfl rfl), Q_HW, Q_HG, Q_HR, fun h0_ => absurd ((hon 7 (by kernel_rfl)).symm.trans h0_) (by decide), Q_H1, fun h0_ _ => absurd ((hoff 9 (by kernel_rfl)).symm.trans h0_) (by decide), fun h0_ => absurd ((hoff 11 (by kernel_rfl)).symm.trans h0_) (by decide)⟩
    refine steps_cons ?_ ?_
    · rintro b a w' ⟨ha, Q_HW, Q_HG, Q_HR, Q_H0, Q_H1, Q_H2, Q_H3⟩ hb_ hon hoff
      refine ⟨_, rfl, fun K hK => ?_⟩
      have e65 : a.tmps[65]? = some (.pointer (some ⟨w.heap.size + 1 + 1, 5, none⟩)) := by rw [ha]; exact putSel_on (e := (8, 65, .pointer (some ⟨w.heap.size + 1 + 1, 5, none⟩))) 4 rfl rfl (hon 8 (by kernel_rfl)) rfl
      have e61 : a.tmps[61]? = some (.int .i64 kt) := by rw [ha]; exact putSel_on (e := (3, 61, .int .i64 kt)) 1 rfl rfl (hon 3 (by kernel_rfl)) rfl
      replace ha := Aside0.mk ha
      have HW := Aside0.mk Q_HW
      have HG := Aside0.mk Q_HG
      have HR := Aside0.mk Q_HR
      have H1 := Aside0.mk (Q_H1 (hon 7 (by kernel_rfl)) hb_)
      have z0 := (blk_cell H1.out 5).trans (rfl : _ = some (Value.int .i64 0))
      have f0 := blk_frozen H1.out 5
      have hl := blk_lt H1.out
      refine skip_ (w1 := w'.setCell ⟨w.heap.size + 1 + 1, 5, none⟩ (.int .i64 kt)) (by rfl) rfl (by go_simp) ?_
      refine hK.out _ _ ⟨(by rw [ha.out]; exact putSel_none (v := undef) rfl), below_set HW.out (by show w.heap.size ≤ w.heap.size + 1 + 1; omega), blk_far (p := ⟨w.heap.size + 1 + 1, 5, none⟩) HG.out (by show w.heap.size ≠ w.heap.size + 1 + 1; omega) _, blk_far (p := ⟨w.heap.size + 1 + 1, 5, none⟩) HR.out (by show w.heap.size + 1 ≠ w.heap.size + 1 + 1; omega) _, fun h0_ => absurd ((hon 7 (by kernel_rfl)).symm.trans h0_) (by decide), fun _ h1_ => absurd ((up_self b 9).symm.trans h1_) (by decide), fun _ _ => blk_put H1.out 5 _ rfl, fun h0_ => absurd ((hoff 11 (by kernel_rfl)).symm.trans h0_) (by decide)⟩
    refine steps_cons ?_ ?_
    · rintro b a w' ⟨ha, Q_HW, Q_HG, Q_HR, Q_H0, Q_H1, Q_H2, Q_H3⟩ hb_ hon hoff
      refine ⟨_, rfl, fun K hK => ?_⟩
      have e3 : a.tmps[3]? = some (.pointer (some ⟨w.heap.size + 1 + 1, 0, none⟩)) := by rw [ha]; exact (putSel_off rfl).trans rfl
      replace ha := Aside0.mk ha
      have HW := Aside0.mk Q_HW
      have HG := Aside0.mk Q_HG
      have HR := Aside0.mk Q_HR
      have H2 := Aside0.mk (Q_H2 (hon 9 (by kernel_rfl)) (hoff 11 (by kernel_rfl)))
      refine value_ (w1 := w') (v := .pointer (some ⟨w.heap.size + 1 + 1, 8, none⟩)) (by rfl) rfl ?_ ?_
      · go_simp
        (try simp only [i64_w])
        try rfl
      refine hK.out _ _ ⟨(by rw [ha.out]; exact putSel_upk 5 hb_ rfl rfl rfl), Q_HW, Q_HG, Q_HR, fun h0_ => absurd ((hon 7 (by kernel_rfl)).symm.trans h0_) (by decide), fun _ h1_ => absurd ((hon 9 (by kernel_rfl)).symm.trans h1_) (by decide), Q_H2, fun h0_ => absurd ((hoff 11 (by kernel_rfl)).symm.trans h0_) (by decide)⟩
    refine steps_cons ?_ ?_
    · rintro b a w' ⟨ha, Q_HW, Q_HG, Q_HR, Q_H0, Q_H1, Q_H2, Q_H3⟩ hb_ hon hoff
      refine ⟨_, rfl, fun K hK => ?_⟩
      have e66 : a.tmps[66]? = some (.pointer (some ⟨w.heap.size + 1 + 1, 8, none⟩)) := by rw [ha]; exact putSel_on (e := (10, 66, .pointer (some ⟨w.heap.size + 1 + 1, 8, none⟩))) 5 rfl rfl (hon 10 (by kernel_rfl)) rfl
      have e63 : a.tmps[63]? = some (.slice A8 n8 m8) := by rw [ha]; exact putSel_on (e := (5, 63, .slice A8 n8 m8)) 2 rfl rfl (hon 5 (by kernel_rfl)) rfl
      replace ha := Aside0.mk ha
      have HW := Aside0.mk Q_HW
      have HG := Aside0.mk Q_HG
      have HR := Aside0.mk Q_HR
      have H2 := Aside0.mk (Q_H2 (hon 9 (by kernel_rfl)) hb_)
      have z0 := (blk_cell H2.out 8).trans (rfl : _ = some (Value.slice none 0 0))
      have f0 := blk_frozen H2.out 8
      have hl := blk_lt H2.out
      refine skip_ (w1 := w'.setCell ⟨w.heap.size + 1 + 1, 8, none⟩ (.slice A8 n8 m8)) (by rfl) rfl (by go_simp) ?_
      refine hK.out _ _ ⟨(by rw [ha.out]; exact putSel_none (v := undef) rfl), below_set HW.out (by show w.heap.size ≤ w.heap.size + 1 + 1; omega), blk_far (p := ⟨w.heap.size + 1 + 1, 8, none⟩) HG.out (by show w.heap.size ≠ w.heap.size + 1 + 1; omega) _, blk_far (p := ⟨w.heap.size + 1 + 1, 8, none⟩) HR.out (by show w.heap.size + 1 ≠ w.heap.size + 1 + 1; omega) _, fun h0_ => absurd ((hon 7 (by kernel_rfl)).symm.trans h0_) (by decide), fun _ h1_ => absurd ((hon 9 (by kernel_rfl)).symm.trans h1_) (by decide), fun _ h1_ => absurd ((up_self b 11).symm.trans h1_) (by decide), fun _ => blk_put H2.out 8 _ rfl⟩
    exact steps_nil
  · rintro b a w' hall ⟨ha, Q_HW, Q_HG, Q_HR, Q_H0, Q_H1, Q_H2, Q_H3⟩
    clear H0 HG HR HW
    have hb1_ := hall 1 (by kernel_rfl)
    have hb3_ := hall 3 (by kernel_rfl)
    have hb5_ := hall 5 (by kernel_rfl)
    have hb6_ := hall 6 (by kernel_rfl)
    have hb7_ := hall 7 (by kernel_rfl)
    have hb8_ := hall 8 (by kernel_rfl)
    have hb9_ := hall 9 (by kernel_rfl)
    have hb10_ := hall 10 (by kernel_rfl)
    have hb11_ := hall 11 (by kernel_rfl)
    subst ha
    simp only [putSel, hb1_, hb3_, hb5_, hb6_, hb7_, hb8_, hb9_, hb10_, hb11_, if_true, Act.put, List.setIfInBounds_toArray, List.set_cons_zero, List.set_cons_succ]
    have HW := Aside0.mk Q_HW
    clear Q_HW
    have HG := Aside0.mk Q_HG
    clear Q_HG
    have HR := Aside0.mk Q_HR
    clear Q_HR
    clear Q_H0
    clear Q_H1
    clear Q_H2
    have H3 := Aside0.mk (Q_H3 hb11_)
    clear Q_H3
    clear hall hb1_ hb3_ hb5_ hb6_ hb7_ hb8_ hb9_ hb10_ hb11_
    have hl4 := blk_lt H3.out
    have q0 := (blk_cell H3.out 0).trans (rfl : _ = some (Value.int .i64 9))
    have q1 := (blk_cell H3.out 1).trans (rfl : _ = some (Value.int .i64 0))
    have q2 := (blk_cell H3.out 2).trans (rfl : _ = some (Value.int .i64 0))
    have q3 := (blk_cell H3.out 3).trans (rfl : _ = some (Value.int .i64 0))
    have q4 := (blk_cell H3.out 4).trans (rfl : _ = some (Value.int .i64 ka))
    have q5 := (blk_cell H3.out 5).trans (rfl : _ = some (Value.int .i64 kt))
    have q6 := (blk_cell H3.out 6).trans (rfl : _ = some (Value.slice none 0 0))
    have q7 := (blk_cell H3.out 7).trans (rfl : _ = some (Value.slice none 0 0))
    have q8 := (blk_cell H3.out 8).trans (rfl : _ = some (Value.slice A8 n8 m8))
    have z0 := (blk_cell HR.out 0).trans (rfl : _ = some (Value.int .i64 0))
    have z1 := (blk_cell HR.out 1).trans (rfl : _ = some (Value.int .i64 0))
    have z2 := (blk_cell HR.out 2).trans (rfl : _ = some (Value.int .i64 0))
    have z3 := (blk_cell HR.out 3).trans (rfl : _ = some (Value.int .i64 0))
    have z4 := (blk_cell HR.out 4).trans (rfl : _ = some (Value.int .i64 0))
    have z5 := (blk_cell HR.out 5).trans (rfl : _ = some (Value.int .i64 0))
    have z6 := (blk_cell HR.out 6).trans (rfl : _ = some (Value.slice none 0 0))
    have z7 := (blk_cell HR.out 7).trans (rfl : _ = some (Value.slice none 0 0))
    have z8 := (blk_cell HR.out 8).trans (rfl : _ = some (Value.slice none 0 0))
    have f0 := blk_frozen HR.out 0
    have f1 := blk_frozen HR.out 1
    have f2 := blk_frozen HR.out 2
    have f3 := blk_frozen HR.out 3
    have f4 := blk_frozen HR.out 4
    have f5 := blk_frozen HR.out 5
    have f6 := blk_frozen HR.out 6
    have f7 := blk_frozen HR.out 7
    have f8 := blk_frozen HR.out 8
    have hl2 := blk_lt HR.out
    have HF := (blk_put (blk_put (blk_put (blk_put (blk_put (blk_put (blk_put (blk_put (blk_put HR.out 0 (.int .i64 9) rfl) 1 (.int .i64 0) rfl) 2 (.int .i64 0) rfl) 3 (.int .i64 0) rfl) 4 (.int .i64 ka) rfl) 5 (.int .i64 kt) rfl) 6 (.slice none 0 0) rfl) 7 (.slice none 0 0) rfl) 8 (.slice A8 n8 m8) rfl)
    have HQ := Aside0.mk (And.intro (blk_cell HF 0) (And.intro (blk_cell HF 1) (And.intro (blk_cell HF 2) (And.intro (blk_cell HF 3) (And.intro (blk_cell HF 4) (And.intro (blk_cell HF 5) (And.intro (blk_cell HF 6) (And.intro (blk_cell HF 7) (blk_cell HF 8)))))))))
    have HBf : Aside0 (Below w.heap.size w (((((((((w'.setCell ⟨w.heap.size + 1, 0, none⟩ (Value.int .i64 9)).setCell ⟨w.heap.size + 1, 1, none⟩ (Value.int .i64 0)).setCell ⟨w.heap.size + 1, 2, none⟩ (Value.int .i64 0)).setCell ⟨w.heap.size + 1, 3, none⟩ (Value.int .i64 0)).setCell ⟨w.heap.size + 1, 4, none⟩ (Value.int .i64 ka)).setCell ⟨w.heap.size + 1, 5, none⟩ (Value.int .i64 kt)).setCell ⟨w.heap.size + 1, 6, none⟩ (Value.slice none 0 0)).setCell ⟨w.heap.size + 1, 7, none⟩ (Value.slice none 0 0)).setCell ⟨w.heap.size + 1, 8, none⟩ (Value.slice A8 n8 m8))) := ⟨(below_set (below_set (below_set (below_set (below_set (below_set (below_set (below_set (below_set HW.out (Nat.le_succ _)) (Nat.le_succ _)) (Nat.le_succ _)) (Nat.le_succ _)) (Nat.le_succ _)) (Nat.le_succ _)) (Nat.le_succ _)) (Nat.le_succ _)) (Nat.le_succ _))⟩
    clear HF HG
    go_wp2
    generalize (((((((((w'.setCell ⟨w.heap.size + 1, 0, none⟩ (Value.int .i64 9)).setCell ⟨w.heap.size + 1, 1, none⟩ (Value.int .i64 0)).setCell ⟨w.heap.size + 1, 2, none⟩ (Value.int .i64 0)).setCell ⟨w.heap.size + 1, 3, none⟩ (Value.int .i64 0)).setCell ⟨w.heap.size + 1, 4, none⟩ (Value.int .i64 ka)).setCell ⟨w.heap.size + 1, 5, none⟩ (Value.int .i64 kt)).setCell ⟨w.heap.size + 1, 6, none⟩ (Value.slice none 0 0)).setCell ⟨w.heap.size + 1, 7, none⟩ (Value.slice none 0 0)).setCell ⟨w.heap.size + 1, 8, none⟩ (Value.slice A8 n8 m8)) = w9 at HQ HBf ⊢
    clear HW HR H3
    clear q0 z0 f0 q1 z1 f1 q2 z2 f2 q3 z3 f3 q4 z4 f4 q5 z5 f5 q6 z6 f6 q7 z7 f7 q8 z8 f8
    obtain ⟨q0, q1, q2, q3, q4, q5, q6, q7, q8⟩ := HQ.out
    refine bodyPost_ret (v := opV 9 0 0 0 ka kt none 0 0 none 0 0 A8 n8 m8) (by simp [results, Tryd.results18, go_sem, q0, q1, q2, q3, q4, q5, q6, q7, q8]) rfl ⟨rfl, HBf.out⟩
set_option maxRecDepth 100000 in
set_option maxHeartbeats 4000000 in
theorem asked_8 (kc kq kh ka kt : Int) (A6 : Option Addr) (n6 m6 : Nat) (A7 : Option Addr) (n7 m7 : Nat) (A8 : Option Addr) (n8 m8 : Nat) (w : World) :
    Calls Tryd.prog 18 #[opV 8 kc kq kh ka kt A6 n6 m6 A7 n7 m7 A8 n8 m8] w fun e w' => e = .returned  (opV 8 0 0 0 ka kt none 0 0 none 0 0 none 0 0) ∧ Below w.heap.size w w' := by
  have HG := Aside0.mk (blk_alloc (blk_alloc (blk_new w (.cells #[.int .i64 8, .int .i64 kc, .int .i64 kq, .int .i64 kh, .int .i64 ka, .int .i64 kt, .slice A6 n6 m6, .slice A7 n7 m7, .slice A8 n8 m8] 30)) (.cells #[.int .i64 0, .int .i64 0, .int .i64 0, .int .i64 0, .int .i64 0, .int .i64 0, .slice none 0 0, .slice none 0 0, .slice none 0 0] 30)) (.cells #[.int .i64 8, .int .i64 0, .int .i64 0, .int .i64 0, .int .i64 0, .int .i64 0, .slice none 0 0, .slice none 0 0, .slice none 0 0] 30))
  have hn : ((w.alloc (.cells #[.int .i64 8, .int .i64 kc, .int .i64 kq, .int .i64 kh, .int .i64 ka, .int .i64 kt, .slice A6 n6 m6, .slice A7 n7 m7, .slice A8 n8 m8] 30)).alloc (.cells #[.int .i64 0, .int .i64 0, .int .i64 0, .int .i64 0, .int .i64 0, .int .i64 0, .slice none 0 0, .slice none 0 0, .slice none 0 0] 30)).heap.size = w.heap.size + 1 + 1 := by simp
  have H0 := Aside0.mk (blk_new ((w.alloc (.cells #[.int .i64 8, .int .i64 kc, .int .i64 kq, .int .i64 kh, .int .i64 ka, .int .i64 kt, .slice A6 n6 m6, .slice A7 n7 m7, .slice A8 n8 m8] 30)).alloc (.cells #[.int .i64 0, .int .i64 0, .int .i64 0, .int .i64 0, .int .i64 0, .int .i64 0, .slice none 0 0, .slice none 0 0, .slice none 0 0] 30)) (.cells #[.int .i64 8, .int .i64 0, .int .i64 0, .int .i64 0, .int .i64 0, .int .i64 0, .slice none 0 0, .slice none 0 0, .slice none 0 0] 30))
  rw [hn] at H0
  have HR := blk_alloc (blk_new (w.alloc (.cells #[.int .i64 8, .int .i64 kc, .int .i64 kq, .int .i64 kh, .int .i64 ka, .int .i64 kt, .slice A6 n6 m6, .slice A7 n7 m7, .slice A8 n8 m8] 30)) (.cells #[.int .i64 0, .int .i64 0, .int .i64 0, .int .i64 0, .int .i64 0, .int .i64 0, .slice none 0 0, .slice none 0 0, .slice none 0 0] 30)) (.cells #[.int .i64 8, .int .i64 0, .int .i64 0, .int .i64 0, .int .i64 0, .int .i64 0, .slice none 0 0, .slice none 0 0, .slice none 0 0] 30)
  rw [show (w.alloc (.cells #[.int .i64 8, .int .i64 kc, .int .i64 kq, .int .i64 kh, .int .i64 ka, .int .i64 kt, .slice A6 n6 m6, .slice A7 n7 m7, .slice A8 n8 m8] 30)).heap.size = w.heap.size + 1 by simp] at HR
  replace HR := Aside0.mk HR
  have HW := Aside0.mk (below_alloc (below_alloc (below_alloc (Below.refl w.heap.size w) (.cells #[.int .i64 8, .int .i64 kc, .int .i64 kq, .int .i64 kh, .int .i64 ka, .int .i64 kt, .slice A6 n6 m6, .slice A7 n7 m7, .slice A8 n8 m8] 30)) (.cells #[.int .i64 0, .int .i64 0, .int .i64 0, .int .i64 0, .int .i64 0, .int .i64 0, .slice none 0 0, .slice none 0 0, .slice none 0 0] 30)) (.cells #[.int .i64 8, .int .i64 0, .int .i64 0, .int .i64 0, .int .i64 0, .int .i64 0, .slice none 0 0, .slice none 0 0, .slice none 0 0] 30))
  clear hn
  go_enter Tryd.func18, Tryd.ntmps18
  go_upto_region 16 with fail
  refine start_ (n := 8) (S := fun w' => True) (ds := []) #[false, false, false, false, false, false, false, false] (by kernel_rfl) rfl rfl trivial (fun hHeld => ?_)
  refine with_tabW askd8Reg.tab16 askd8Reg.bits16 (fun HT_ HW_ => ?_)
  refine pure_ (i := 0) (N := some 50) (v := ?_) (a' := ?_) #[true, false, false, false, false, false, false, false] rfl rfl (any_of HT_.out (by kernel_rfl)) (fun _ _ _ h => h) (Or.inl ⟨by rfl, ?_⟩) ?_ ?_
  rotate_left
  · intro w'
    go_simp
    with_reducible rfl
  rotate_left
  · simp only [Act.put, List.setIfInBounds_toArray, List.set_cons_zero, List.set_cons_succ, i64_w, i32_w]
    rfl
  refine pure_ (i := 2) (N := some 52) (v := ?_) (a' := ?_) #[true, false, true, false, false, false, false, false] rfl rfl (any_of HT_.out (by kernel_rfl)) (fun _ _ _ h => h) (Or.inl ⟨by rfl, ?_⟩) ?_ ?_
  rotate_left
  · intro w'
    go_simp
    with_reducible rfl
  rotate_left
  · simp only [Act.put, List.setIfInBounds_toArray, List.set_cons_zero, List.set_cons_succ, i64_w, i32_w]
    rfl
  refine inv_at [1, 3, 4, 5, 6, 7] (fun a0_ b a w' => a = putSel a0_ b [(1, 51, .int .i64 ka), (3, 53, .int .i64 kt), (4, 54, .pointer (some ⟨w.heap.size + 1 + 1, 4, none⟩)), (6, 55, .pointer (some ⟨w.heap.size + 1 + 1, 5, none⟩))] ∧ (Below w.heap.size w w') ∧ (w'.heap[w.heap.size]? = some (.cells #[.int .i64 8, .int .i64 kc, .int .i64 kq, .int .i64 kh, .int .i64 ka, .int .i64 kt, .slice A6 n6 m6, .slice A7 n7 m7, .slice A8 n8 m8] 30 (0, 0))) ∧ (w'.heap[w.heap.size + 1]? = some (.cells #[.int .i64 0, .int .i64 0, .int .i64 0, .int .i64 0, .int .i64 0, .int .i64 0, .slice none 0 0, .slice none 0 0, .slice none 0 0] 30 (0, 0))) ∧ (b 5 = false → w'.heap[w.heap.size + 1 + 1]? = some (.cells #[.int .i64 8, .int .i64 0, .int .i64 0, .int .i64 0, .int .i64 0, .int .i64 0, .slice none 0 0, .slice none 0 0, .slice none 0 0] 30 (0, 0))) ∧ (b 5 = true → b 7 = false → w'.heap[w.heap.size + 1 + 1]? = some (.cells #[.int .i64 8, .int .i64 0, .int .i64 0, .int .i64 0, .int .i64 ka, .int .i64 0, .slice none 0 0, .slice none 0 0, .slice none 0 0] 30 (0, 0))) ∧ (b 7 = true → w'.heap[w.heap.size + 1 + 1]? = some (.cells #[.int .i64 8, .int .i64 0, .int .i64 0, .int .i64 0, .int .i64 ka, .int .i64 kt, .slice none 0 0, .slice none 0 0, .slice none 0 0] 30 (0, 0)))) HT_.out HW_.out (by kernel_rfl) (by kernel_rfl) ?_ ?_ ?_
  · exact ⟨by simp only [putSel, Bool.false_eq_true, if_false], below_drew HW.out, HG.out, HR.out, fun _ => H0.out, fun h_ => absurd h_ (by decide), fun h_ => absurd h_ (by decide)⟩
  · skip
    clear H0 HG HR HW
    refine steps_cons ?_ ?_
    · rintro b a w' ⟨ha, Q_HW, Q_HG, Q_HR, Q_H0, Q_H1, Q_H2⟩ hb_ hon hoff
      refine ⟨_, rfl, fun K hK => ?_⟩
      have e50 : a.tmps[50]? = some (.pointer (some ⟨w.heap.size, 4, none⟩)) := by rw [ha]; exact (putSel_off rfl).trans rfl
      replace ha := Aside0.mk ha
      have HW := Aside0.mk Q_HW
      have HG := Aside0.mk Q_HG
      have HR := Aside0.mk Q_HR
      have H0 := Aside0.mk (Q_H0 (hoff 5 (by kernel_rfl)))
      have q0 := (blk_cell HG.out 4).trans (rfl : _ = some (Value.int .i64 ka))
      refine value_ (w1 := w') (v := .int .i64 ka) (by rfl) rfl ?_ ?_
      · go_simp
        (try simp only [i64_w])
        try rfl
      refine hK.out _ _ ⟨(by rw [ha.out]; exact putSel_upk 0 hb_ rfl rfl rfl), Q_HW, Q_HG, Q_HR, Q_H0, fun h0_ _ => absurd ((hoff 5 (by kernel_rfl)).symm.trans h0_) (by decide), fun h0_ => absurd ((hoff 7 (by kernel_rfl)).symm.trans h0_) (by decide)⟩
    refine steps_cons ?_ ?_
    · rintro b a w' ⟨ha, Q_HW, Q_HG, Q_HR, Q_H0, Q_H1, Q_H2⟩ hb_ hon hoff
      refine ⟨_, rfl, fun K hK => ?_⟩
      have e52 : a.tmps[52]? = some (.pointer (some ⟨w.heap.size, 5, none⟩)) := by rw [ha]; exact (putSel_off rfl).trans rfl
      replace ha := Aside0.mk ha
      have HW := Aside0.mk Q_HW
      have HG := Aside0.mk Q_HG
      have HR := Aside0.mk Q_HR
      have q0 := (blk_cell HG.out 5).trans (rfl : _ = some (Value.int .i64 kt))
      refine value_ (w1 := w') (v := .int .i64 kt) (by rfl) rfl ?_ ?_
      · go_simp
        (try simp only [i64_w])
        try rfl
      refine hK.out _ _ ⟨(by rw [ha.out]; exact putSel_upk 1 hb_ rfl rfl rfl), Q_HW, Q_HG, Q_HR, Q_H0, Q_H1, fun h0_ => absurd ((hoff 7 (by kernel_rfl)).symm.trans h0_) (by decide)⟩
    refine steps_cons ?_ ?_
    · rintro b a w' ⟨ha, Q_HW, Q_HG, Q_HR, Q_H0, Q_H1, Q_H2⟩ hb_ hon hoff
      refine ⟨_, rfl, fun K hK => ?_⟩
      have e3 : a.tmps[3]? = some (.pointer (some ⟨w.heap.size + 1 + 1, 0, none⟩)) := by rw [ha]; exact (putSel_off rfl).trans rfl
      replace ha := Aside0.mk ha
      have HW := Aside0.mk Q_HW
      have HG := Aside0.mk Q_HG
      have HR := Aside0.mk Q_HR
      have H0 := Aside0.mk (Q_H0 (hoff 5 (by kernel_rfl)))
      refine value_ (w1 := w') (v := .pointer (some ⟨w.heap.size + 1 + 1, 4, none⟩)) (by rfl) rfl ?_ ?_
      · go_simp
        (try simp only [i64_w])
        try rfl
      refine hK.out _ _ ⟨(by rw [ha.out]; exact putSel_upk 2 hb_ rfl rfl rfl), Q_HW, Q_HG, Q_HR, Q_H0, fun h0_ _ => absurd ((hoff 5 (by kernel_rfl)).symm.trans h0_) (by decide), fun h0_ => absurd ((hoff 7 (by kernel_rfl)).symm.trans h0_) (by decide)⟩
    refine steps_cons ?_ ?_
    · rintro b a w' ⟨ha, Q_HW, Q_HG, Q_HR, Q_H0, Q_H1, Q_H2⟩ hb_ hon hoff
      refine ⟨_, rfl, fun K hK => ?_⟩
      have e54 : a.tmps[54]? = some (.pointer (some ⟨w.heap.size + 1 + 1, 4, none⟩)) := by rw [ha]; exact putSel_on (e := (4, 54, .pointer (some ⟨w.heap.size + 1 + 1, 4, none⟩))) 2 rfl rfl (hon 4 (by kernel_rfl)) rfl
      have e51 : a.tmps[51]? = some (.int .i64 ka) := by rw [ha]; exact putSel_on (e := (1, 51, .int .i64 ka)) 0 rfl rfl (hon 1 (by kernel_rfl)) rfl
      replace ha := Aside0.mk ha
      have HW := Aside0.mk Q_HW
      have HG := Aside0.mk Q_HG
      have HR := Aside0.mk Q_HR
      have H0 := Aside0.mk (Q_H0 hb_)
      have z0 := (blk_cell H0.out 4).trans (rfl : _ = some (Value.int .i64 0))
      have f0 := blk_frozen H0.out 4
      have hl := blk_lt H0.out
      refine skip_ (w1 := w'.setCell ⟨w.heap.size + 1 + 1, 4, none⟩ (.int .i64 ka)) (by rfl) rfl (by go_simp) ?_
      refine hK.out _ _ ⟨(by rw [ha.out]; exact putSel_none (v := undef) rfl), below_set HW.out (by show w.heap.size ≤ w.heap.size + 1 + 1; omega), blk_far (p := ⟨w.heap.size + 1 + 1, 4, none⟩) HG.out (by show w.heap.size ≠ w.heap.size + 1 + 1; omega) _, blk_far (p := ⟨w.heap.size + 1 + 1, 4, none⟩) HR.out (by show w.heap.size + 1 ≠ w.heap.size + 1 + 1; omega) _, fun h0_ => absurd ((up_self b 5).symm.trans h0_) (by decide), fun _ _ => blk_put H0.out 4 _ rfl, fun h0_ => absurd ((hoff 7 (by kernel_rfl)).symm.trans h0_) (by decide)⟩
    refine steps_cons ?_ ?_
    · rintro b a w' ⟨ha, Q_HW, Q_HG, Q_HR, Q_H0, Q_H1, Q_H2⟩ hb_ hon hoff
      refine ⟨_, rfl, fun K hK => ?_⟩
      have e3 : a.tmps[3]? = some (.pointer (some ⟨w.heap.size + 1 + 1, 0, none⟩)) := by rw [ha]; exact (putSel_off rfl).trans rfl
      replace ha := Aside0.mk ha
      have HW := Aside0.mk Q_HW
      have HG := Aside0.mk Q_HG
      have HR := Aside0.mk Q_HR
      have H1 := Aside0.mk (Q_H1 (hon 5 (by kernel_rfl)) (hoff 7 (by kernel_rfl)))
      refine value_ (w1 := w') (v := .pointer (some ⟨w.heap.size + 1 + 1, 5, none⟩)) (by rfl) rfl ?_ ?_
      · go_simp
        (try simp only [i64_w])
        try rfl
      refine hK.out _ _ ⟨(by rw [ha.out]; exact putSel_upk 3 hb_ rfl rfl rfl), Q_HW, Q_HG, Q_HR, fun h0_ => absurd ((hon 5 (by kernel_rfl)).symm.trans h0_) (by decide), Q_H1, fun h0_ => absurd ((hoff 7 (by kernel_rfl)).symm.trans h0_) (by decide)⟩
    refine steps_cons ?_ ?_
    · rintro b a w' ⟨ha, Q_HW, Q_HG, Q_HR, Q_H0, Q_H1, Q_H2⟩ hb_ hon hoff
      refine ⟨_, rfl, fun K hK => ?_⟩
      have e55 : a.tmps[55]? = some (.pointer (some ⟨w.heap.size + 1 + 1, 5, none⟩)) := by rw [ha]; exact putSel_on (e := (6, 55, .pointer (some ⟨w.heap.size + 1 + 1, 5, none⟩))) 3 rfl rfl (hon 6 (by kernel_rfl)) rfl
      have e53 : a.tmps[53]? = some (.int .i64 kt) := by rw [ha]; exact putSel_on (e := (3, 53, .int .i64 kt)) 1 rfl rfl (hon 3 (by kernel_rfl)) rfl
      replace ha := Aside0.mk ha
      have HW := Aside0.mk Q_HW
      have HG := Aside0.mk Q_HG
      have HR := Aside0.mk Q_HR
      have H1 := Aside0.mk (Q_H1 (hon 5 (by kernel_rfl)) hb_)
      have z0 := (blk_cell H1.out 5).trans (rfl : _ = some (Value.int .i64 0))
      have f0 := blk_frozen H1.out 5
      have hl := blk_lt H1.out
      refine skip_ (w1 := w'.setCell ⟨w.heap.size + 1 + 1, 5, none⟩ (.int .i64 kt)) (by rfl) rfl (by go_simp) ?_
      refine hK.out _ _ ⟨(by rw [ha.out]; exact putSel_none (v := undef) rfl), below_set HW.out (by show w.heap.size ≤ w.heap.size + 1 + 1; omega), blk_far (p := ⟨w.heap.size + 1 + 1, 5, none⟩) HG.out (by show w.heap.size ≠ w.heap.size + 1 + 1; omega) _, blk_far (p := ⟨w.heap.size + 1 + 1, 5, none⟩) HR.out (by show w.heap.size + 1 ≠ w.heap.size + 1 + 1; omega) _, fun h0_ => absurd ((hon 5 (by kernel_rfl)).symm.trans h0_) (by decide), fun _ h1_ => absurd ((up_self b 7).symm.trans h1_) (by decide), fun _ => blk_put H1.out 5 _ rfl⟩
    exact steps_nil
  · rintro b a w' hall ⟨ha, Q_HW, Q_HG, Q_HR, Q_H0, Q_H1, Q_H2⟩
    clear H0 HG HR HW
    have hb1_ := hall 1 (by kernel_rfl)
    have hb3_ := hall 3 (by kernel_rfl)
    have hb4_ := hall 4 (by kernel_rfl)
    have hb5_ := hall 5 (by kernel_rfl)
    have hb6_ := hall 6 (by kernel_rfl)
    have hb7_ := hall 7 (by kernel_rfl)
    subst ha
    simp only [putSel, hb1_, hb3_, hb4_, hb5_, hb6_, hb7_, if_true, Act.put, List.setIfInBounds_toArray, List.set_cons_zero, List.set_cons_succ]
    have HW := Aside0.mk Q_HW
    clear Q_HW
    have HG := Aside0.mk Q_HG
    clear Q_HG
    have HR := Aside0.mk Q_HR
    clear Q_HR
    clear Q_H0
    clear Q_H1
    have H2 := Aside0.mk (Q_H2 hb7_)
    clear Q_H2
    clear hall hb1_ hb3_ hb4_ hb5_ hb6_ hb7_
    have hl4 := blk_lt H2.out
    have q0 := (blk_cell H2.out 0).trans (rfl : _ = some (Value.int .i64 8))
    have q1 := (blk_cell H2.out 1).trans (rfl : _ = some (Value.int .i64 0))
    have q2 := (blk_cell H2.out 2).trans (rfl : _ = some (Value.int .i64 0))
    have q3 := (blk_cell H2.out 3).trans (rfl : _ = some (Value.int .i64 0))
    have q4 := (blk_cell H2.out 4).trans (rfl : _ = some (Value.int .i64 ka))
    have q5 := (blk_cell H2.out 5).trans (rfl : _ = some (Value.int .i64 kt))
    have q6 := (blk_cell H2.out 6).trans (rfl : _ = some (Value.slice none 0 0))
    have q7 := (blk_cell H2.out 7).trans (rfl : _ = some (Value.slice none 0 0))
    have q8 := (blk_cell H2.out 8).trans (rfl : _ = some (Value.slice none 0 0))
    have z0 := (blk_cell HR.out 0).trans (rfl : _ = some (Value.int .i64 0))
    have z1 := (blk_cell HR.out 1).trans (rfl : _ = some (Value.int .i64 0))
    have z2 := (blk_cell HR.out 2).trans (rfl : _ = some (Value.int .i64 0))
    have z3 := (blk_cell HR.out 3).trans (rfl : _ = some (Value.int .i64 0))
    have z4 := (blk_cell HR.out 4).trans (rfl : _ = some (Value.int .i64 0))
    have z5 := (blk_cell HR.out 5).trans (rfl : _ = some (Value.int .i64 0))
    have z6 := (blk_cell HR.out 6).trans (rfl : _ = some (Value.slice none 0 0))
    have z7 := (blk_cell HR.out 7).trans (rfl : _ = some (Value.slice none 0 0))
    have z8 := (blk_cell HR.out 8).trans (rfl : _ = some (Value.slice none 0 0))
    have f0 := blk_frozen HR.out 0
    have f1 := blk_frozen HR.out 1
    have f2 := blk_frozen HR.out 2
    have f3 := blk_frozen HR.out 3
    have f4 := blk_frozen HR.out 4
    have f5 := blk_frozen HR.out 5
    have f6 := blk_frozen HR.out 6
    have f7 := blk_frozen HR.out 7
    have f8 := blk_frozen HR.out 8
    have hl2 := blk_lt HR.out
    have HF := (blk_put (blk_put (blk_put (blk_put (blk_put (blk_put (blk_put (blk_put (blk_put HR.out 0 (.int .i64 8) rfl) 1 (.int .i64 0) rfl) 2 (.int .i64 0) rfl) 3 (.int .i64 0) rfl) 4 (.int .i64 ka) rfl) 5 (.int .i64 kt) rfl) 6 (.slice none 0 0) rfl) 7 (.slice none 0 0) rfl) 8 (.slice none 0 0) rfl)
    have HQ := Aside0.mk (And.intro (blk_cell HF 0) (And.intro (blk_cell HF 1) (And.intro (blk_cell HF 2) (And.intro (blk_cell HF 3) (And.intro (blk_cell HF 4) (And.intro (blk_cell HF 5) (And.intro (blk_cell HF 6) (And.intro (blk_cell HF 7) (blk_cell HF 8)))))))))
    have HBf : Aside0 (Below w.heap.size w (((((((((w'.setCell ⟨w.heap.size + 1, 0, none⟩ (Value.int .i64 8)).setCell ⟨w.heap.size + 1, 1, none⟩ (Value.int .i64 0)).setCell ⟨w.heap.size + 1, 2, none⟩ (Value.int .i64 0)).setCell ⟨w.heap.size + 1, 3, none⟩ (Value.int .i64 0)).setCell ⟨w.heap.size + 1, 4, none⟩ (Value.int .i64 ka)).setCell ⟨w.heap.size + 1, 5, none⟩ (Value.int .i64 kt)).setCell ⟨w.heap.size + 1, 6, none⟩ (Value.slice none 0 0)).setCell ⟨w.heap.size + 1, 7, none⟩ (Value.slice none 0 0)).setCell ⟨w.heap.size + 1, 8, none⟩ (Value.slice none 0 0))) := ⟨(below_set (below_set (below_set (below_set (below_set (below_set (below_set (below_set (below_set HW.out (Nat.le_succ _)) (Nat.le_succ _)) (Nat.le_succ _)) (Nat.le_succ _)) (Nat.le_succ _)) (Nat.le_succ _)) (Nat.le_succ _)) (Nat.le_succ _)) (Nat.le_succ _))⟩
    clear HF HG
    go_wp2
    generalize (((((((((w'.setCell ⟨w.heap.size + 1, 0, none⟩ (Value.int .i64 8)).setCell ⟨w.heap.size + 1, 1, none⟩ (Value.int .i64 0)).setCell ⟨w.heap.size + 1, 2, none⟩ (Value.int .i64 0)).setCell ⟨w.heap.size + 1, 3, none⟩ (Value.int .i64 0)).setCell ⟨w.heap.size + 1, 4, none⟩ (Value.int .i64 ka)).setCell ⟨w.heap.size + 1, 5, none⟩ (Value.int .i64 kt)).setCell ⟨w.heap.size + 1, 6, none⟩ (Value.slice none 0 0)).setCell ⟨w.heap.size + 1, 7, none⟩ (Value.slice none 0 0)).setCell ⟨w.heap.size + 1, 8, none⟩ (Value.slice none 0 0)) = w9 at HQ HBf ⊢
    clear HW HR H2
    clear q0 z0 f0 q1 z1 f1 q2 z2 f2 q3 z3 f3 q4 z4 f4 q5 z5 f5 q6 z6 f6 q7 z7 f7 q8 z8 f8
    obtain ⟨q0, q1, q2, q3, q4, q5, q6, q7, q8⟩ := HQ.out
    refine bodyPost_ret (v := opV 8 0 0 0 ka kt none 0 0 none 0 0 none 0 0) (by simp [results, Tryd.results18, go_sem, q0, q1, q2, q3, q4, q5, q6, q7, q8]) rfl ⟨rfl, HBf.out⟩
set_option maxRecDepth 100000 in
set_option maxHeartbeats 4000000 in
theorem asked_1 (kc kq kh ka kt : Int) (A6 : Option Addr) (n6 m6 : Nat) (A7 : Option Addr) (n7 m7 : Nat) (A8 : Option Addr) (n8 m8 : Nat) (w : World) :
    Calls Tryd.prog 18 #[opV 1 kc kq kh ka kt A6 n6 m6 A7 n7 m7 A8 n8 m8] w fun e w' => e = .returned  (opV 1 0 0 0 ka 0 none 0 0 none 0 0 none 0 0) ∧ Below w.heap.size w w' := by
  go_enter Tryd.func18, Tryd.ntmps18
  go_wp2
  refine bodyPost_ret (v := opV 1 0 0 0 ka 0 none 0 0 none 0 0 none 0 0) (by simp [results, Tryd.results18, go_sem]) rfl ⟨rfl, ?_⟩
  repeat (first | exact Below.refl _ _ | apply below_alloc)
set_option maxRecDepth 100000 in
set_option maxHeartbeats 4000000 in
theorem asked_2 (kc kq kh ka kt : Int) (A6 : Option Addr) (n6 m6 : Nat) (A7 : Option Addr) (n7 m7 : Nat) (A8 : Option Addr) (n8 m8 : Nat) (w : World) :
    Calls Tryd.prog 18 #[opV 2 kc kq kh ka kt A6 n6 m6 A7 n7 m7 A8 n8 m8] w fun e w' => e = .returned  (opV 2 kc 0 0 0 0 A6 n6 m6 none 0 0 none 0 0) ∧ Below w.heap.size w w' := by
  have HG := Aside0.mk (blk_alloc (blk_alloc (blk_new w (.cells #[.int .i64 2, .int .i64 kc, .int .i64 kq, .int .i64 kh, .int .i64 ka, .int .i64 kt, .slice A6 n6 m6, .slice A7 n7 m7, .slice A8 n8 m8] 30)) (.cells #[.int .i64 0, .int .i64 0, .int .i64 0, .int .i64 0, .int .i64 0, .int .i64 0, .slice none 0 0, .slice none 0 0, .slice none 0 0] 30)) (.cells #[.int .i64 2, .int .i64 0, .int .i64 0, .int .i64 0, .int .i64 0, .int .i64 0, .slice none 0 0, .slice none 0 0, .slice none 0 0] 30))
  have hn : ((w.alloc (.cells #[.int .i64 2, .int .i64 kc, .int .i64 kq, .int .i64 kh, .int .i64 ka, .int .i64 kt, .slice A6 n6 m6, .slice A7 n7 m7, .slice A8 n8 m8] 30)).alloc (.cells #[.int .i64 0, .int .i64 0, .int .i64 0, .int .i64 0, .int .i64 0, .int .i64 0, .slice none 0 0, .slice none 0 0, .slice none 0 0] 30)).heap.size = w.heap.size + 1 + 1 := by simp
  have H0 := Aside0.mk (blk_new ((w.alloc (.cells #[.int .i64 2, .int .i64 kc, .int .i64 kq, .int .i64 kh, .int .i64 ka, .int .i64 kt, .slice A6 n6 m6, .slice A7 n7 m7, .slice A8 n8 m8] 30)).alloc (.cells #[.int .i64 0, .int .i64 0, .int .i64 0, .int .i64 0, .int .i64 0, .int .i64 0, .slice none 0 0, .slice none 0 0, .slice none 0 0] 30)) (.cells #[.int .i64 2, .int .i64 0, .int .i64 0, .int .i64 0, .int .i64 0, .int .i64 0, .slice none 0 0, .slice none 0 0, .slice none 0 0] 30))
  rw [hn] at H0
  have HR := blk_alloc (blk_new (w.alloc (.cells #[.int .i64 2, .int .i64 kc, .int .i64 kq, .int .i64 kh, .int .i64 ka, .int .i64 kt, .slice A6 n6 m6, .slice A7 n7 m7, .slice A8 n8 m8] 30)) (.cells #[.int .i64 0, .int .i64 0, .int .i64 0, .int .i64 0, .int .i64 0, .int .i64 0, .slice none 0 0, .slice none 0 0, .slice none 0 0] 30)) (.cells #[.int .i64 2, .int .i64 0, .int .i64 0, .int .i64 0, .int .i64 0, .int .i64 0, .slice none 0 0, .slice none 0 0, .slice none 0 0] 30)
  rw [show (w.alloc (.cells #[.int .i64 2, .int .i64 kc, .int .i64 kq, .int .i64 kh, .int .i64 ka, .int .i64 kt, .slice A6 n6 m6, .slice A7 n7 m7, .slice A8 n8 m8] 30)).heap.size = w.heap.size + 1 by simp] at HR
  replace HR := Aside0.mk HR
  have HW := Aside0.mk (below_alloc (below_alloc (below_alloc (Below.refl w.heap.size w) (.cells #[.int .i64 2, .int .i64 kc, .int .i64 kq, .int .i64 kh, .int .i64 ka, .int .i64 kt, .slice A6 n6 m6, .slice A7 n7 m7, .slice A8 n8 m8] 30)) (.cells #[.int .i64 0, .int .i64 0, .int .i64 0, .int .i64 0, .int .i64 0, .int .i64 0, .slice none 0 0, .slice none 0 0, .slice none 0 0] 30)) (.cells #[.int .i64 2, .int .i64 0, .int .i64 0, .int .i64 0, .int .i64 0, .int .i64 0, .slice none 0 0, .slice none 0 0, .slice none 0 0] 30))
  clear hn
  go_enter Tryd.func18, Tryd.ntmps18
  go_upto_region 7 with fail
  refine start_ (n := 8) (S := fun w' => True) (ds := []) #[false, false, false, false, false, false, false, false] (by kernel_rfl) rfl rfl trivial (fun hHeld => ?_)
  refine with_tabW askd2Reg.tab7 askd2Reg.bits7 (fun HT_ HW_ => ?_)
  refine pure_ (i := 0) (N := some 17) (v := ?_) (a' := ?_) #[true, false, false, false, false, false, false, false] rfl rfl (any_of HT_.out (by kernel_rfl)) (fun _ _ _ h => h) (Or.inl ⟨by rfl, ?_⟩) ?_ ?_
  rotate_left
  · intro w'
    go_simp
    with_reducible rfl
  rotate_left
  · simp only [Act.put, List.setIfInBounds_toArray, List.set_cons_zero, List.set_cons_succ, i64_w, i32_w]
    rfl
  refine pure_ (i := 2) (N := some 19) (v := ?_) (a' := ?_) #[true, false, true, false, false, false, false, false] rfl rfl (any_of HT_.out (by kernel_rfl)) (fun _ _ _ h => h) (Or.inl ⟨by rfl, ?_⟩) ?_ ?_
  rotate_left
  · intro w'
    go_simp
    with_reducible rfl
  rotate_left
  · simp only [Act.put, List.setIfInBounds_toArray, List.set_cons_zero, List.set_cons_succ, i64_w, i32_w]
    rfl
  refine inv_at [1, 3, 4, 5, 6, 7] (fun a0_ b a w' => a = putSel a0_ b [(1, 18, .int .i64 kc), (3, 20, .slice A6 n6 m6), (4, 21, .pointer (some ⟨w.heap.size + 1 + 1, 1, none⟩)), (6, 22, .pointer (some ⟨w.heap.size + 1 + 1, 6, none⟩))] ∧ (Below w.heap.size w w') ∧ (w'.heap[w.heap.size]? = some (.cells #[.int .i64 2, .int .i64 kc, .int .i64 kq, .int .i64 kh, .int .i64 ka, .int .i64 kt, .slice A6 n6 m6, .slice A7 n7 m7, .slice A8 n8 m8] 30 (0, 0))) ∧ (w'.heap[w.heap.size + 1]? = some (.cells #[.int .i64 0, .int .i64 0, .int .i64 0, .int .i64 0, .int .i64 0, .int .i64 0, .slice none 0 0, .slice none 0 0, .slice none 0 0] 30 (0, 0))) ∧ (b 5 = false → w'.heap[w.heap.size + 1 + 1]? = some (.cells #[.int .i64 2, .int .i64 0, .int .i64 0, .int .i64 0, .int .i64 0, .int .i64 0, .slice none 0 0, .slice none 0 0, .slice none 0 0] 30 (0, 0))) ∧ (b 5 = true → b 7 = false → w'.heap[w.heap.size + 1 + 1]? = some (.cells #[.int .i64 2, .int .i64 kc, .int .i64 0, .int .i64 0, .int .i64 0, .int .i64 0, .slice none 0 0, .slice none 0 0, .slice none 0 0] 30 (0, 0))) ∧ (b 7 = true → w'.heap[w.heap.size + 1 + 1]? = some (.cells #[.int .i64 2, .int .i64 kc, .int .i64 0, .int .i64 0, .int .i64 0, .int .i64 0, .slice A6 n6 m6, .slice none 0 0, .slice none 0 0] 30 (0, 0)))) HT_.out HW_.out (by kernel_rfl) (by kernel_rfl) ?_ ?_ ?_
  · exact ⟨by simp only [putSel, Bool.false_eq_true, if_false], below_drew HW.out, HG.out, HR.out, fun _ => H0.out, fun h_ => absurd h_ (by decide), fun h_ => absurd h_ (by decide)⟩
  · skip
    clear H0 HG HR HW
    refine steps_cons ?_ ?_
    · rintro b a w' ⟨ha, Q_HW, Q_HG, Q_HR, Q_H0, Q_H1, Q_H2⟩ hb_ hon hoff
      refine ⟨_, rfl, fun K hK => ?_⟩
      have e17 : a.tmps[17]? = some (.pointer (some ⟨w.heap.size, 1, none⟩)) := by rw [ha]; exact (putSel_off rfl).trans rfl
      replace ha := Aside0.mk ha
      have HW := Aside0.mk Q_HW
      have HG := Aside0.mk Q_HG
      have HR := Aside0.mk Q_HR
      have H0 := Aside0.mk (Q_H0 (hoff 5 (by kernel_rfl)))
      have q0 := (blk_cell HG.out 1).trans (rfl : _ = some (Value.int .i64 kc))
      refine value_ (w1 := w') (v := .int .i64 kc) (by rfl) rfl ?_ ?_
      · go_simp
        (try simp only [i64_w])
        try rfl
      refine hK.out _ _ ⟨(by rw [ha.out]; exact putSel_upk 0 hb_ rfl rfl rfl), Q_HW, Q_HG, Q_HR, Q_H0, fun h0_ _ => absurd ((hoff 5 (by kernel_rfl)).symm.trans h0_) (by decide), fun h0_ => absurd ((hoff 7 (by kernel_rfl)).symm.trans h0_) (by decide)⟩
    refine steps_cons ?_ ?_
    · rintro b a w' ⟨ha, Q_HW, Q_HG, Q_HR, Q_H0, Q_H1, Q_H2⟩ hb_ hon hoff
      refine ⟨_, rfl, fun K hK => ?_⟩
      have e19 : a.tmps[19]? = some (.pointer (some ⟨w.heap.size, 6, none⟩)) := by rw [ha]; exact (putSel_off rfl).trans rfl
      replace ha := Aside0.mk ha
      have HW := Aside0.mk Q_HW
      have HG := Aside0.mk Q_HG
      have HR := Aside0.mk Q_HR
      have q0 := (blk_cell HG.out 6).trans (rfl : _ = some (Value.slice A6 n6 m6))
      refine value_ (w1 := w') (v := .slice A6 n6 m6) (by rfl) rfl ?_ ?_
      · go_simp
        (try simp only [i64_w])
        try rfl
      refine hK.out _ _ ⟨(by rw [ha.out]; exact putSel_upk 1 hb_ rfl rfl rfl), Q_HW, Q_HG, Q_HR, Q_H0, Q_H1, fun h0_ => absurd ((hoff 7 (by kernel_rfl)).symm.trans h0_) (by decide)⟩
    refine steps_cons ?_ ?_
    · rintro b a w' ⟨ha, Q_HW, Q_HG, Q_HR, Q_H0, Q_H1, Q_H2⟩ hb_ hon hoff
      refine ⟨_, rfl, fun K hK => ?_⟩
      have e3 : a.tmps[3]? = some (.pointer (some ⟨w.heap.size + 1 + 1, 0, none⟩)) := by rw [ha]; exact (putSel_off rfl).trans rfl
      replace ha := Aside0.mk ha
      have HW := Aside0.mk Q_HW
      have HG := Aside0.mk Q_HG
      have HR := Aside0.mk Q_HR
      have H0 := Aside0.mk (Q_H0 (hoff 5 (by kernel_rfl)))
      refine value_ (w1 := w') (v := .pointer (some ⟨w.heap.size + 1 + 1, 1, none⟩)) (by rfl) rfl ?_ ?_
      · go_simp
        (try simp only [i64_w])
        try rfl
      refine hK.out _ _ ⟨(by rw [ha.out]; exact putSel_upk 2 hb_ rfl rfl rfl), Q_HW, Q_HG, Q_HR, Q_H0, fun h0_ _ => absurd ((hoff 5 (by kernel_rfl)).symm.trans h0_) (by decide), fun h0_ => absurd ((hoff 7 (by kernel_rfl)).symm.trans h0_) (by decide)⟩
    refine steps_cons ?_ ?_
    · rintro b a w' ⟨ha, Q_HW, Q_HG, Q_HR, Q_H0, Q_H1, Q_H2⟩ hb_ hon hoff
      refine ⟨_, rfl, fun K hK => ?_⟩
      have e21 : a.tmps[21]? = some (.pointer (some ⟨w.heap.size + 1 + 1, 1, none⟩)) := by rw [ha]; exact putSel_on (e := (4, 21, .pointer (some ⟨w.heap.size + 1 + 1, 1, none⟩))) 2 rfl rfl (hon 4 (by kernel_rfl)) rfl
      have e18 : a.tmps[18]? = some (.int .i64 kc) := by rw [ha]; exact putSel_on (e := (1, 18, .int .i64 kc)) 0 rfl rfl (hon 1 (by kernel_rfl)) rfl
      replace ha := Aside0.mk ha
      have HW := Aside0.mk Q_HW
      have HG := Aside0.mk Q_HG
      have HR := Aside0.mk Q_HR
      have H0 := Aside0.mk (Q_H0 hb_)
      have z0 := (blk_cell H0.out 1).trans (rfl : _ = some (Value.int .i64 0))
      have f0 := blk_frozen H0.out 1
      have hl := blk_lt H0.out
      refine skip_ (w1 := w'.setCell ⟨w.heap.size + 1 + 1, 1, none⟩ (.int .i64 kc)) (by rfl) rfl (by go_simp) ?_
      refine hK.out _ _ ⟨(by rw [ha.out]; exact putSel_none (v := undef) rfl), below_set HW.out (by show w.heap.size ≤ w.heap.size + 1 + 1; omega), blk_far (p := ⟨w.heap.size + 1 + 1, 1, none⟩) HG.out (by show w.heap.size ≠ w.heap.size + 1 + 1; omega) _, blk_far (p := ⟨w.heap.size + 1 + 1, 1, none⟩) HR.out (by show w.heap.size + 1 ≠ w.heap.size + 1 + 1; omega) _, fun h0_ => absurd ((up_self b 5).symm.trans h0_) (by decide), fun _ _ => blk_put H0.out 1 _ rfl, fun h0_ => absurd ((hoff 7 (by kernel_rfl)).symm.trans h0_) (by decide)⟩
    refine steps_cons ?_ ?_
    · rintro b a w' ⟨ha, Q_HW, Q_HG, Q_HR, Q_H0, Q_H1, Q_H2⟩ hb_ hon hoff
      refine ⟨_, rfl, fun K hK => ?_⟩
      have e3 : a.tmps[3]? = some (.pointer (some ⟨w.heap.size + 1 + 1, 0, none⟩)) := by rw [ha]; exact (putSel_off rfl).trans rfl
      replace ha := Aside0.mk ha
      have HW := Aside0.mk Q_HW
      have HG := Aside0.mk Q_HG
      have HR := Aside0.mk Q_HR
      have H1 := Aside0.mk (Q_H1 (hon 5 (by kernel_rfl)) (hoff 7 (by kernel_rfl)))
      refine value_ (w1 := w') (v := .pointer (some ⟨w.heap.size + 1 + 1, 6, none⟩)) (by rfl) rfl ?_ ?_
      · go_simp
        (try simp only [i64_w])
        try rfl
      refine hK.out _ _ ⟨(by rw [ha.out]; exact putSel_upk 3 hb_ rfl rfl rfl), Q_HW, Q_HG, Q_HR, fun h0_ => absurd ((hon 5 (by kernel_rfl)).symm.trans h0_) (by decide), Q_H1, fun h0_ => absurd ((hoff 7 (by kernel_rfl)).symm.trans h0_) (by decide)⟩
    refine steps_cons ?_ ?_
    · rintro b a w' ⟨ha, Q_HW, Q_HG, Q_HR, Q_H0, Q_H1, Q_H2⟩ hb_ hon hoff
      refine ⟨_, rfl, fun K hK => ?_⟩
      have e22 : a.tmps[22]? = some (.pointer (some ⟨w.heap.size + 1 + 1, 6, none⟩)) := by rw [ha]; exact putSel_on (e := (6, 22, .pointer (some ⟨w.heap.size + 1 + 1, 6, none⟩))) 3 rfl rfl (hon 6 (by kernel_rfl)) rfl
      have e20 : a.tmps[20]? = some (.slice A6 n6 m6) := by rw [ha]; exact putSel_on (e := (3, 20, .slice A6 n6 m6)) 1 rfl rfl (hon 3 (by kernel_rfl)) rfl
      replace ha := Aside0.mk ha
      have HW := Aside0.mk Q_HW
      have HG := Aside0.mk Q_HG
      have HR := Aside0.mk Q_HR
      have H1 := Aside0.mk (Q_H1 (hon 5 (by kernel_rfl)) hb_)
      have z0 := (blk_cell H1.out 6).trans (rfl : _ = some (Value.slice none 0 0))
      have f0 := blk_frozen H1.out 6
      have hl := blk_lt H1.out
      refine skip_ (w1 := w'.setCell ⟨w.heap.size + 1 + 1, 6, none⟩ (.slice A6 n6 m6)) (by rfl) rfl (by go_simp) ?_
      refine hK.out _ _ ⟨(by rw [ha.out]; exact putSel_none (v := undef) rfl), below_set HW.out (by show w.heap.size ≤ w.heap.size + 1 + 1; omega), blk_far (p := ⟨w.heap.size + 1 + 1, 6, none⟩) HG.out (by show w.heap.size ≠ w.heap.size + 1 + 1; omega) _, blk_far (p := ⟨w.heap.size + 1 + 1, 6, none⟩) HR.out (by show w.heap.size + 1 ≠ w.heap.size + 1 + 1; omega) _, fun h0_ => absurd ((hon 5 (by kernel_rfl)).symm.trans h0_) (by decide), fun _ h1_ => absurd ((up_self b 7).symm.trans h1_) (by decide), fun _ => blk_put H1.out 6 _ rfl⟩
    exact steps_nil
  · rintro b a w' hall ⟨ha, Q_HW, Q_HG, Q_HR, Q_H0, Q_H1, Q_H2⟩
    clear H0 HG HR HW
    have hb1_ := hall 1 (by kernel_rfl)
    have hb3_ := hall 3 (by kernel_rfl)
    have hb4_ := hall 4 (by kernel_rfl)
    have hb5_ := hall 5 (by kernel_rfl)
    have hb6_ := hall 6 (by kernel_rfl)
    have hb7_ := hall 7 (by kernel_rfl)
    subst ha
    simp only [putSel, hb1_, hb3_, hb4_, hb5_, hb6_, hb7_, if_true, Act.put, List.setIfInBounds_toArray, List.set_cons_zero, List.set_cons_succ]
    have HW := Aside0.mk Q_HW
    clear Q_HW
    have HG := Aside0.mk Q_HG
    clear Q_HG
    have HR := Aside0.mk Q_HR
    clear Q_HR
    clear Q_H0
    clear Q_H1
    have H2 := Aside0.mk (Q_H2 hb7_)
    clear Q_H2
    clear hall hb1_ hb3_ hb4_ hb5_ hb6_ hb7_
    have hl4 := blk_lt H2.out
    have q0 := (blk_cell H2.out 0).trans (rfl : _ = some (Value.int .i64 2))
    have q1 := (blk_cell H2.out 1).trans (rfl : _ = some (Value.int .i64 kc))
    have q2 := (blk_cell H2.out 2).trans (rfl : _ = some (Value.int .i64 0))
    have q3 := (blk_cell H2.out 3).trans (rfl : _ = some (Value.int .i64 0))
    have q4 := (blk_cell H2.out 4).trans (rfl : _ = some (Value.int .i64 0))
    have q5 := (blk_cell H2.out 5).trans (rfl : _ = some (Value.int .i64 0))
    have q6 := (blk_cell H2.out 6).trans (rfl : _ = some (Value.slice A6 n6 m6))
    have q7 := (blk_cell H2.out 7).trans (rfl : _ = some (Value.slice none 0 0))
    have q8 := (blk_cell H2.out 8).trans (rfl : _ = some (Value.slice none 0 0))
    have z0 := (blk_cell HR.out 0).trans (rfl : _ = some (Value.int .i64 0))
    have z1 := (blk_cell HR.out 1).trans (rfl : _ = some (Value.int .i64 0))
    have z2 := (blk_cell HR.out 2).trans (rfl : _ = some (Value.int .i64 0))
    have z3 := (blk_cell HR.out 3).trans (rfl : _ = some (Value.int .i64 0))
    have z4 := (blk_cell HR.out 4).trans (rfl : _ = some (Value.int .i64 0))
    have z5 := (blk_cell HR.out 5).trans (rfl : _ = some (Value.int .i64 0))
    have z6 := (blk_cell HR.out 6).trans (rfl : _ = some (Value.slice none 0 0))
    have z7 := (blk_cell HR.out 7).trans (rfl : _ = some (Value.slice none 0 0))
    have z8 := (blk_cell HR.out 8).trans (rfl : _ = some (Value.slice none 0 0))
    have f0 := blk_frozen HR.out 0
    have f1 := blk_frozen HR.out 1
    have f2 := blk_frozen HR.out 2
    have f3 := blk_frozen HR.out 3
    have f4 := blk_frozen HR.out 4
    have f5 := blk_frozen HR.out 5
    have f6 := blk_frozen HR.out 6
    have f7 := blk_frozen HR.out 7
    have f8 := blk_frozen HR.out 8
    have hl2 := blk_lt HR.out
    have HF := (blk_put (blk_put (blk_put (blk_put (blk_put (blk_put (blk_put (blk_put (blk_put HR.out 0 (.int .i64 2) rfl) 1 (.int .i64 kc) rfl) 2 (.int .i64 0) rfl) 3 (.int .i64 0) rfl) 4 (.int .i64 0) rfl) 5 (.int .i64 0) rfl) 6 (.slice A6 n6 m6) rfl) 7 (.slice none 0 0) rfl) 8 (.slice none 0 0) rfl)
    have HQ := Aside0.mk (And.intro (blk_cell HF 0) (And.intro (blk_cell HF 1) (And.intro (blk_cell HF 2) (And.intro (blk_cell HF 3) (And.intro (blk_cell HF 4) (And.intro (blk_cell HF 5) (And.intro (blk_cell HF 6) (And.intro (blk_cell HF 7) (blk_cell HF 8)))))))))
    have HBf : Aside0 (Below w.heap.size w (((((((((w'.setCell ⟨w.heap.size + 1, 0, none⟩ (Value.int .i64 2)).setCell ⟨w.heap.size + 1, 1, none⟩ (Value.int .i64 kc)).setCell ⟨w.heap.size + 1, 2, none⟩ (Value.int .i64 0)).setCell ⟨w.heap.size + 1, 3, none⟩ (Value.int .i64 0)).setCell ⟨w.heap.size + 1, 4, none⟩ (Value.int .i64 0)).setCell ⟨w.heap.size + 1, 5, none⟩ (Value.int .i64 0)).setCell ⟨w.heap.size + 1, 6, none⟩ (Value.slice A6 n6 m6)).setCell ⟨w.heap.size + 1, 7, none⟩ (Value.slice none 0 0)).setCell ⟨w.heap.size + 1, 8, none⟩ (Value.slice none 0 0))) := ⟨(below_set (below_set (below_set (below_set (below_set (below_set (below_set (below_set (below_set HW.out (Nat.le_succ _)) (Nat.le_succ _)) (Nat.le_succ _)) (Nat.le_succ _)) (Nat.le_succ _)) (Nat.le_succ _)) (Nat.le_succ _)) (Nat.le_succ _)) (Nat.le_succ _))⟩
    clear HF HG
    go_wp2
    generalize (((((((((w'.setCell ⟨w.heap.size + 1, 0, none⟩ (Value.int .i64 2)).setCell ⟨w.heap.size + 1, 1, none⟩ (Value.int .i64 kc)).setCell ⟨w.heap.size + 1, 2, none⟩ (Value.int .i64 0)).setCell ⟨w.heap.size + 1, 3, none⟩ (Value.int .i64 0)).setCell ⟨w.heap.size + 1, 4, none⟩ (Value.int .i64 0)).setCell ⟨w.heap.size + 1, 5, none⟩ (Value.int .i64 0)).setCell ⟨w.heap.size + 1, 6, none⟩ (Value.slice A6 n6 m6)).setCell ⟨w.heap.size + 1, 7, none⟩ (Value.slice none 0 0)).setCell ⟨w.heap.size + 1, 8, none⟩ (Value.slice none 0 0)) = w9 at HQ HBf ⊢
    clear HW HR H2
    clear q0 z0 f0 q1 z1 f1 q2 z2 f2 q3 z3 f3 q4 z4 f4 q5 z5 f5 q6 z6 f6 q7 z7 f7 q8 z8 f8
    obtain ⟨q0, q1, q2, q3, q4, q5, q6, q7, q8⟩ := HQ.out
    refine bodyPost_ret (v := opV 2 kc 0 0 0 0 A6 n6 m6 none 0 0 none 0 0) (by simp [results, Tryd.results18, go_sem, q0, q1, q2, q3, q4, q5, q6, q7, q8]) rfl ⟨rfl, HBf.out⟩
set_option maxRecDepth 100000 in
set_option maxHeartbeats 4000000 in
theorem asked_4 (kc kq kh ka kt : Int) (A6 : Option Addr) (n6 m6 : Nat) (A7 : Option Addr) (n7 m7 : Nat) (A8 : Option Addr) (n8 m8 : Nat) (w : World) :
    Calls Tryd.prog 18 #[opV 4 kc kq kh ka kt A6 n6 m6 A7 n7 m7 A8 n8 m8] w fun e w' => e = .returned  (opV 4 kc 0 0 0 0 A6 n6 m6 none 0 0 none 0 0) ∧ Below w.heap.size w w' := by
  have HG := Aside0.mk (blk_alloc (blk_alloc (blk_new w (.cells #[.int .i64 4, .int .i64 kc, .int .i64 kq, .int .i64 kh, .int .i64 ka, .int .i64 kt, .slice A6 n6 m6, .slice A7 n7 m7, .slice A8 n8 m8] 30)) (.cells #[.int .i64 0, .int .i64 0, .int .i64 0, .int .i64 0, .int .i64 0, .int .i64 0, .slice none 0 0, .slice none 0 0, .slice none 0 0] 30)) (.cells #[.int .i64 4, .int .i64 0, .int .i64 0, .int .i64 0, .int .i64 0, .int .i64 0, .slice none 0 0, .slice none 0 0, .slice none 0 0] 30))
  have hn : ((w.alloc (.cells #[.int .i64 4, .int .i64 kc, .int .i64 kq, .int .i64 kh, .int .i64 ka, .int .i64 kt, .slice A6 n6 m6, .slice A7 n7 m7, .slice A8 n8 m8] 30)).alloc (.cells #[.int .i64 0, .int .i64 0, .int .i64 0, .int .i64 0, .int .i64 0, .int .i64 0, .slice none 0 0, .slice none 0 0, .slice none 0 0] 30)).heap.size = w.heap.size + 1 + 1 := by simp
  have H0 := Aside0.mk (blk_new ((w.alloc (.cells #[.int .i64 4, .int .i64 kc, .int .i64 kq, .int .i64 kh, .int .i64 ka, .int .i64 kt, .slice A6 n6 m6, .slice A7 n7 m7, .slice A8 n8 m8] 30)).alloc (.cells #[.int .i64 0, .int .i64 0, .int .i64 0, .int .i64 0, .int .i64 0, .int .i64 0, .slice none 0 0, .slice none 0 0, .slice none 0 0] 30)) (.cells #[.int .i64 4, .int .i64 0, .int .i64 0, .int .i64 0, .int .i64 0, .int .i64 0, .slice none 0 0, .slice none 0 0, .slice none 0 0] 30))
  rw [hn] at H0
  have HR := blk_alloc (blk_new (w.alloc (.cells #[.int .i64 4, .int .i64 kc, .int .i64 kq, .int .i64 kh, .int .i64 ka, .int .i64 kt, .slice A6 n6 m6, .slice A7 n7 m7, .slice A8 n8 m8] 30)) (.cells #[.int .i64 0, .int .i64 0, .int .i64 0, .int .i64 0, .int .i64 0, .int .i64 0, .slice none 0 0, .slice none 0 0, .slice none 0 0] 30)) (.cells #[.int .i64 4, .int .i64 0, .int .i64 0, .int .i64 0, .int .i64 0, .int .i64 0, .slice none 0 0, .slice none 0 0, .slice none 0 0] 30)
  rw [show (w.alloc (.cells #[.int .i64 4, .int .i64 kc, .int .i64 kq, .int .i64 kh, .int .i64 ka, .int .i64 kt, .slice A6 n6 m6, .slice A7 n7 m7, .slice A8 n8 m8] 30)).heap.size = w.heap.size + 1 by simp] at HR
  replace HR := Aside0.mk HR
  have HW := Aside0.mk (below_alloc (below_alloc (below_alloc (Below.refl w.heap.size w) (.cells #[.int .i64 4, .int .i64 kc, .int .i64 kq, .int .i64 kh, .int .i64 ka, .int .i64 kt, .slice A6 n6 m6, .slice A7 n7 m7, .slice A8 n8 m8] 30)) (.cells #[.int .i64 0, .int .i64 0, .int .i64 0, .int .i64 0, .int .i64 0, .int .i64 0, .slice none 0 0, .slice none 0 0, .slice none 0 0] 30)) (.cells #[.int .i64 4, .int .i64 0, .int .i64 0, .int .i64 0, .int .i64 0, .int .i64 0, .slice none 0 0, .slice none 0 0, .slice none 0 0] 30))
  clear hn
  go_enter Tryd.func18, Tryd.ntmps18
  go_upto_region 7 with fail
  refine start_ (n := 8) (S := fun w' => True) (ds := []) #[false, false, false, false, false, false, false, false] (by kernel_rfl) rfl rfl trivial (fun hHeld => ?_)
  refine with_tabW askd4Reg.tab7 askd4Reg.bits7 (fun HT_ HW_ => ?_)
  refine pure_ (i := 0) (N := some 17) (v := ?_) (a' := ?_) #[true, false, false, false, false, false, false, false] rfl rfl (any_of HT_.out (by kernel_rfl)) (fun _ _ _ h => h) (Or.inl ⟨by rfl, ?_⟩) ?_ ?_
  rotate_left
  · intro w'
    go_simp
    with_reducible rfl
  rotate_left
  · simp only [Act.put, List.setIfInBounds_toArray, List.set_cons_zero, List.set_cons_succ, i64_w, i32_w]
    rfl
  refine pure_ (i := 2) (N := some 19) (v := ?_) (a' := ?_) #[true, false, true, false, false, false, false, false] rfl rfl (any_of HT_.out (by kernel_rfl)) (fun _ _ _ h => h) (Or.inl ⟨by rfl, ?_⟩) ?_ ?_
  rotate_left
  · intro w'
    go_simp
    with_reducible rfl
  rotate_left
  · simp only [Act.put, List.setIfInBounds_toArray, List.set_cons_zero, List.set_cons_succ, i64_w, i32_w]
    rfl
  refine inv_at [1, 3, 4, 5, 6, 7] (fun a0_ b a w' => a = putSel a0_ b [(1, 18, .int .i64 kc), (3, 20, .slice A6 n6 m6), (4, 21, .pointer (some ⟨w.heap.size + 1 + 1, 1, none⟩)), (6, 22, .pointer (some ⟨w.heap.size + 1 + 1, 6, none⟩))] ∧ (Below w.heap.size w w') ∧ (w'.heap[w.heap.size]? = some (.cells #[.int .i64 4, .int .i64 kc, .int .i64 kq, .int .i64 kh, .int .i64 ka, .int .i64 kt, .slice A6 n6 m6, .slice A7 n7 m7, .slice A8 n8 m8] 30 (0, 0))) ∧ (w'.heap[w.heap.size + 1]? = some (.cells #[.int .i64 0, .int .i64 0, .int .i64 0, .int .i64 0, .int .i64 0, .int .i64 0, .slice none 0 0, .slice none 0 0, .slice none 0 0] 30 (0, 0))) ∧ (b 5 = false → w'.heap[w.heap.size + 1 + 1]? = some (.cells #[.int .i64 4, .int .i64 0, .int .i64 0, .int .i64 0, .int .i64 0, .int .i64 0, .slice none 0 0, .slice none 0 0, .slice none 0 0] 30 (0, 0))) ∧ (b 5 = true → b 7 = false → w'.heap[w.heap.size + 1 + 1]? = some (.cells #[.int .i64 4, .int .i64 kc, .int .i64 0, .int .i64 0, .int .i64 0, .int .i64 0, .slice none 0 0, .slice none 0 0, .slice none 0 0] 30 (0, 0))) ∧ (b 7 = true → w'.heap[w.heap.size + 1 + 1]? = some (.cells #[.int .i64 4, .int .i64 kc, .int .i64 0, .int .i64 0, .int .i64 0, .int .i64 0, .slice A6 n6 m6, .slice none 0 0, .slice none 0 0] 30 (0, 0)))) HT_.out HW_.out (by kernel_rfl) (by kernel_rfl) ?_ ?_ ?_
  · exact ⟨by simp only [putSel, Bool.false_eq_true, if_false], below_drew HW.out, HG.out, HR.out, fun _ => H0.out, fun h_ => absurd h_ (by decide), fun h_ => absurd h_ (by decide)⟩
  · skip
    clear H0 HG HR HW
    refine steps_cons ?_ ?_
    · rintro b a w' ⟨ha, Q_HW, Q_HG, Q_HR, Q_H0, Q_H1, Q_H2⟩ hb_ hon hoff
      refine ⟨_, rfl, fun K hK => ?_⟩
      have e17 : a.tmps[17]? = some (.pointer (some ⟨w.heap.size, 1, none⟩)) := by rw [ha]; exact (putSel_off rfl).trans rfl
      replace ha := Aside0.mk ha
      have HW := Aside0.mk Q_HW
      have HG := Aside0.mk Q_HG
      have HR := Aside0.mk Q_HR
      have H0 := Aside0.mk (Q_H0 (hoff 5 (by kernel_rfl)))
      have q0 := (blk_cell HG.out 1).trans (rfl : _ = some (Value.int .i64 kc))
      refine value_ (w1 := w') (v := .int .i64 kc) (by rfl) rfl ?_ ?_
      · go_simp
        (try simp only [i64_w])
        try rfl
      refine hK.out _ _ ⟨(by rw [ha.out]; exact putSel_upk 0 hb_ rfl rfl rfl), Q_HW, Q_HG, Q_HR, Q_H0, fun h0_ _ => absurd ((hoff 5 (by kernel_rfl)).symm.trans h0_) (by decide), fun h0_ => absurd ((hoff 7 (by kernel_rfl)).symm.trans h0_) (by decide)⟩
    refine steps_cons ?_ ?_
    · rintro b a w' ⟨ha, Q_HW, Q_HG, Q_HR, Q_H0, Q_H1, Q_H2⟩ hb_ hon hoff
      refine ⟨_, rfl, fun K hK => ?_⟩
      have e19 : a.tmps[19]? = some (.pointer (some ⟨w.heap.size, 6, none⟩)) := by rw [ha]; exact (putSel_off rfl).trans rfl
      replace ha := Aside0.mk ha
      have HW := Aside0.mk Q_HW
      have HG := Aside0.mk Q_HG
      have HR := Aside0.mk Q_HR
      have q0 := (blk_cell HG.out 6).trans (rfl : _ = some (Value.slice A6 n6 m6))
      refine value_ (w1 := w') (v := .slice A6 n6 m6) (by rfl) rfl ?_ ?_
      · go_simp
        (try simp only [i64_w])
        try rfl
      refine hK.out _ _ ⟨(by rw [ha.out]; exact putSel_upk 1 hb_ rfl rfl rfl), Q_HW, Q_HG, Q_HR, Q_H0, Q_H1, fun h0_ => absurd ((hoff 7 (by kernel_rfl)).symm.trans h0_) (by decide)⟩
    refine steps_cons ?_ ?_
    · rintro b a w' ⟨ha, Q_HW, Q_HG, Q_HR, Q_H0, Q_H1, Q_H2⟩ hb_ hon hoff
      refine ⟨_, rfl, fun K hK => ?_⟩
      have e3 : a.tmps[3]? = some (.pointer (some ⟨w.heap.size + 1 + 1, 0, none⟩)) := by rw [ha]; exact (putSel_off rfl).trans rfl
      replace ha := Aside0.mk ha
      have HW := Aside0.mk Q_HW
      have HG := Aside0.mk Q_HG
      have HR := Aside0.mk Q_HR
      have H0 := Aside0.mk (Q_H0 (hoff 5 (by kernel_rfl)))
      refine value_ (w1 := w') (v := .pointer (some ⟨w.heap.size + 1 + 1, 1, none⟩)) (by rfl) rfl ?_ ?_
      · go_simp
        (try simp only [i64_w])
        try rfl
      refine hK.out _ _ ⟨(by rw [ha.out]; exact putSel_upk 2 hb_ rfl rfl rfl), Q_HW, Q_HG, Q_HR, Q_H0, fun h0_ _ => absurd ((hoff 5 (by kernel_rfl)).symm.trans h0_) (by decide), fun h0_ => absurd ((hoff 7 (by kernel_rfl)).symm.trans h0_) (by decide)⟩
    refine steps_cons ?_ ?_
    · rintro b a w' ⟨ha, Q_HW, Q_HG, Q_HR, Q_H0, Q_H1, Q_H2⟩ hb_ hon hoff
      refine ⟨_, rfl, fun K hK => ?_⟩
      have e21 : a.tmps[21]? = some (.pointer (some ⟨w.heap.size + 1 + 1, 1, none⟩)) := by rw [ha]; exact putSel_on (e := (4, 21, .pointer (some ⟨w.heap.size + 1 + 1, 1, none⟩))) 2 rfl rfl (hon 4 (by kernel_rfl)) rfl
      have e18 : a.tmps[18]? = some (.int .i64 kc) := by rw [ha]; exact putSel_on (e := (1, 18, .int .i64 kc)) 0 rfl rfl (hon 1 (by kernel_rfl)) rfl
      replace ha := Aside0.mk ha
      have HW := Aside0.mk Q_HW
      have HG := Aside0.mk Q_HG
      have HR := Aside0.mk Q_HR
      have H0 := Aside0.mk (Q_H0 hb_)
      have z0 := (blk_cell H0.out 1).trans (rfl : _ = some (Value.int .i64 0))
      have f0 := blk_frozen H0.out 1
      have hl := blk_lt H0.out
      refine skip_ (w1 := w'.setCell ⟨w.heap.size + 1 + 1, 1, none⟩ (.int .i64 kc)) (by rfl) rfl (by go_simp) ?_
      refine hK.out _ _ ⟨(by rw [ha.out]; exact putSel_none (v := undef) rfl), below_set HW.out (by show w.heap.size ≤ w.heap.size + 1 + 1; omega), blk_far (p := ⟨w.heap.size + 1 + 1, 1, none⟩) HG.out (by show w.heap.size ≠ w.heap.size + 1 + 1; omega) _, blk_far (p := ⟨w.heap.size + 1 + 1, 1, none⟩) HR.out (by show w.heap.size + 1 ≠ w.heap.size + 1 + 1; omega) _, fun h0_ => absurd ((up_self b 5).symm.trans h0_) (by decide), fun _ _ => blk_put H0.out 1 _ rfl, fun h0_ => absurd ((hoff 7 (by kernel_rfl)).symm.trans h0_) (by decide)⟩
    refine steps_cons ?_ ?_
    · rintro b a w' ⟨ha, Q_HW, Q_HG, Q_HR, Q_H0, Q_H1, Q_H2⟩ hb_ hon hoff
      refine ⟨_, rfl, fun K hK => ?_⟩
      have e3 : a.tmps[3]? = some (.pointer (some ⟨w.heap.size + 1 + 1, 0, none⟩)) := by rw [ha]; exact (putSel_off rfl).trans rfl
      replace ha := Aside0.mk ha
      have HW := Aside0.mk Q_HW
      have HG := Aside0.mk Q_HG
      have HR := Aside0.mk Q_HR
      have H1 := Aside0.mk (Q_H1 (hon 5 (by kernel_rfl)) (hoff 7 (by kernel_rfl)))
      refine value_ (w1 := w') (v := .pointer (some ⟨w.heap.size + 1 + 1, 6, none⟩)) (by rfl) rfl ?_ ?_
      · go_simp
        (try simp only [i64_w])
        try rfl
      refine hK.out _ _ ⟨(by rw [ha.out]; exact putSel_upk 3 hb_ rfl rfl rfl), Q_HW, Q_HG, Q_HR, fun h0_ => absurd ((hon 5 (by kernel_rfl)).symm.trans h0_) (by decide), Q_H1, fun h0_ => absurd ((hoff 7 (by kernel_rfl)).symm.trans h0_) (by decide)⟩
    refine steps_cons ?_ ?_
    · rintro b a w' ⟨ha, Q_HW, Q_HG, Q_HR, Q_H0, Q_H1, Q_H2⟩ hb_ hon hoff
      refine ⟨_, rfl, fun K hK => ?_⟩
      have e22 : a.tmps[22]? = some (.pointer (some ⟨w.heap.size + 1 + 1, 6, none⟩)) := by rw [ha]; exact putSel_on (e := (6, 22, .pointer (some ⟨w.heap.size + 1 + 1, 6, none⟩))) 3 rfl rfl (hon 6 (by kernel_rfl)) rfl
      have e20 : a.tmps[20]? = some (.slice A6 n6 m6) := by rw [ha]; exact putSel_on (e := (3, 20, .slice A6 n6 m6)) 1 rfl rfl (hon 3 (by kernel_rfl)) rfl
      replace ha := Aside0.mk ha
      have HW := Aside0.mk Q_HW
      have HG := Aside0.mk Q_HG
      have HR := Aside0.mk Q_HR
      have H1 := Aside0.mk (Q_H1 (hon 5 (by kernel_rfl)) hb_)
      have z0 := (blk_cell H1.out 6).trans (rfl : _ = some (Value.slice none 0 0))
      have f0 := blk_frozen H1.out 6
      have hl := blk_lt H1.out
      refine skip_ (w1 := w'.setCell ⟨w.heap.size + 1 + 1, 6, none⟩ (.slice A6 n6 m6)) (by rfl) rfl (by go_simp) ?_
      refine hK.out _ _ ⟨(by rw [ha.out]; exact putSel_none (v := undef) rfl), below_set HW.out (by show w.heap.size ≤ w.heap.size + 1 + 1; omega), blk_far (p := ⟨w.heap.size + 1 + 1, 6, none⟩) HG.out (by show w.heap.size ≠ w.heap.size + 1 + 1; omega) _, blk_far (p := ⟨w.heap.size + 1 + 1, 6, none⟩) HR.out (by show w.heap.size + 1 ≠ w.heap.size + 1 + 1; omega) _, fun h0_ => absurd ((hon 5 (by kernel_rfl)).symm.trans h0_) (by decide), fun _ h1_ => absurd ((up_self b 7).symm.trans h1_) (by decide), fun _ => blk_put H1.out 6 _ rfl⟩
    exact steps_nil
  · rintro b a w' hall ⟨ha, Q_HW, Q_HG, Q_HR, Q_H0, Q_H1, Q_H2⟩
    clear H0 HG HR HW
    have hb1_ := hall 1 (by kernel_rfl)
    have hb3_ := hall 3 (by kernel_rfl)
    have hb4_ := hall 4 (by kernel_rfl)
    have hb5_ := hall 5 (by kernel_rfl)
    have hb6_ := hall 6 (by kernel_rfl)
    have hb7_ := hall 7 (by kernel_rfl)
    subst ha
    simp only [putSel, hb1_, hb3_, hb4_, hb5_, hb6_, hb7_, if_true, Act.put, List.setIfInBounds_toArray, List.set_cons_zero, List.set_cons_succ]
    have HW := Aside0.mk Q_HW
    clear Q_HW
    have HG := Aside0.mk Q_HG
    clear Q_HG
    have HR := Aside0.mk Q_HR
    clear Q_HR
    clear Q_H0
    clear Q_H1
    have H2 := Aside0.mk (Q_H2 hb7_)
    clear Q_H2
    clear hall hb1_ hb3_ hb4_ hb5_ hb6_ hb7_
    have hl4 := blk_lt H2.out
    have q0 := (blk_cell H2.out 0).trans (rfl : _ = some (Value.int .i64 4))
    have q1 := (blk_cell H2.out 1).trans (rfl : _ = some (Value.int .i64 kc))
    have q2 := (blk_cell H2.out 2).trans (rfl : _ = some (Value.int .i64 0))
    have q3 := (blk_cell H2.out 3).trans (rfl : _ = some (Value.int .i64 0))
    have q4 := (blk_cell H2.out 4).trans (rfl : _ = some (Value.int .i64 0))
    have q5 := (blk_cell H2.out 5).trans (rfl : _ = some (Value.int .i64 0))
    have q6 := (blk_cell H2.out 6).trans (rfl : _ = some (Value.slice A6 n6 m6))
    have q7 := (blk_cell H2.out 7).trans (rfl : _ = some (Value.slice none 0 0))
    have q8 := (blk_cell H2.out 8).trans (rfl : _ = some (Value.slice none 0 0))
    have z0 := (blk_cell HR.out 0).trans (rfl : _ = some (Value.int .i64 0))
    have z1 := (blk_cell HR.out 1).trans (rfl : _ = some (Value.int .i64 0))
    have z2 := (blk_cell HR.out 2).trans (rfl : _ = some (Value.int .i64 0))
    have z3 := (blk_cell HR.out 3).trans (rfl : _ = some (Value.int .i64 0))
    have z4 := (blk_cell HR.out 4).trans (rfl : _ = some (Value.int .i64 0))
    have z5 := (blk_cell HR.out 5).trans (rfl : _ = some (Value.int .i64 0))
    have z6 := (blk_cell HR.out 6).trans (rfl : _ = some (Value.slice none 0 0))
    have z7 := (blk_cell HR.out 7).trans (rfl : _ = some (Value.slice none 0 0))
    have z8 := (blk_cell HR.out 8).trans (rfl : _ = some (Value.slice none 0 0))
    have f0 := blk_frozen HR.out 0
    have f1 := blk_frozen HR.out 1
    have f2 := blk_frozen HR.out 2
    have f3 := blk_frozen HR.out 3
    have f4 := blk_frozen HR.out 4
    have f5 := blk_frozen HR.out 5
    have f6 := blk_frozen HR.out 6
    have f7 := blk_frozen HR.out 7
    have f8 := blk_frozen HR.out 8
    have hl2 := blk_lt HR.out
    have HF := (blk_put (blk_put (blk_put (blk_put (blk_put (blk_put (blk_put (blk_put (blk_put HR.out 0 (.int .i64 4) rfl) 1 (.int .i64 kc) rfl) 2 (.int .i64 0) rfl) 3 (.int .i64 0) rfl) 4 (.int .i64 0) rfl) 5 (.int .i64 0) rfl) 6 (.slice A6 n6 m6) rfl) 7 (.slice none 0 0) rfl) 8 (.slice none 0 0) rfl)
    have HQ := Aside0.mk (And.intro (blk_cell HF 0) (And.intro (blk_cell HF 1) (And.intro (blk_cell HF 2) (And.intro (blk_cell HF 3) (And.intro (blk_cell HF 4) (And.intro (blk_cell HF 5) (And.intro (blk_cell HF 6) (And.intro (blk_cell HF 7) (blk_cell HF 8)))))))))
    have HBf : Aside0 (Below w.heap.size w (((((((((w'.setCell ⟨w.heap.size + 1, 0, none⟩ (Value.int .i64 4)).setCell ⟨w.heap.size + 1, 1, none⟩ (Value.int .i64 kc)).setCell ⟨w.heap.size + 1, 2, none⟩ (Value.int .i64 0)).setCell ⟨w.heap.size + 1, 3, none⟩ (Value.int .i64 0)).setCell ⟨w.heap.size + 1, 4, none⟩ (Value.int .i64 0)).setCell ⟨w.heap.size + 1, 5, none⟩ (Value.int .i64 0)).setCell ⟨w.heap.size + 1, 6, none⟩ (Value.slice A6 n6 m6)).setCell ⟨w.heap.size + 1, 7, none⟩ (Value.slice none 0 0)).setCell ⟨w.heap.size + 1, 8, none⟩ (Value.slice none 0 0))) := ⟨(below_set (below_set (below_set (below_set (below_set (below_set (below_set (below_set (below_set HW.out (Nat.le_succ _)) (Nat.le_succ _)) (Nat.le_succ _)) (Nat.le_succ _)) (Nat.le_succ _)) (Nat.le_succ _)) (Nat.le_succ _)) (Nat.le_succ _)) (Nat.le_succ _))⟩
    clear HF HG
    go_wp2
    generalize (((((((((w'.setCell ⟨w.heap.size + 1, 0, none⟩ (Value.int .i64 4)).setCell ⟨w.heap.size + 1, 1, none⟩ (Value.int .i64 kc)).setCell ⟨w.heap.size + 1, 2, none⟩ (Value.int .i64 0)).setCell ⟨w.heap.size + 1, 3, none⟩ (Value.int .i64 0)).setCell ⟨w.heap.size + 1, 4, none⟩ (Value.int .i64 0)).setCell ⟨w.heap.size + 1, 5, none⟩ (Value.int .i64 0)).setCell ⟨w.heap.size + 1, 6, none⟩ (Value.slice A6 n6 m6)).setCell ⟨w.heap.size + 1, 7, none⟩ (Value.slice none 0 0)).setCell ⟨w.heap.size + 1, 8, none⟩ (Value.slice none 0 0)) = w9 at HQ HBf ⊢
    clear HW HR H2
    clear q0 z0 f0 q1 z1 f1 q2 z2 f2 q3 z3 f3 q4 z4 f4 q5 z5 f5 q6 z6 f6 q7 z7 f7 q8 z8 f8
    obtain ⟨q0, q1, q2, q3, q4, q5, q6, q7, q8⟩ := HQ.out
    refine bodyPost_ret (v := opV 4 kc 0 0 0 0 A6 n6 m6 none 0 0 none 0 0) (by simp [results, Tryd.results18, go_sem, q0, q1, q2, q3, q4, q5, q6, q7, q8]) rfl ⟨rfl, HBf.out⟩
set_option maxRecDepth 100000 in
set_option maxHeartbeats 4000000 in
theorem asked_3 (kc kq kh ka kt : Int) (A6 : Option Addr) (n6 m6 : Nat) (A7 : Option Addr) (n7 m7 : Nat) (A8 : Option Addr) (n8 m8 : Nat) (w : World) :
    Calls Tryd.prog 18 #[opV 3 kc kq kh ka kt A6 n6 m6 A7 n7 m7 A8 n8 m8] w fun e w' => e = .returned  (opV 3 kc kq 0 0 0 none 0 0 none 0 0 none 0 0) ∧ Below w.heap.size w w' := by
  have HG := Aside0.mk (blk_alloc (blk_alloc (blk_new w (.cells #[.int .i64 3, .int .i64 kc, .int .i64 kq, .int .i64 kh, .int .i64 ka, .int .i64 kt, .slice A6 n6 m6, .slice A7 n7 m7, .slice A8 n8 m8] 30)) (.cells #[.int .i64 0, .int .i64 0, .int .i64 0, .int .i64 0, .int .i64 0, .int .i64 0, .slice none 0 0, .slice none 0 0, .slice none 0 0] 30)) (.cells #[.int .i64 3, .int .i64 0, .int .i64 0, .int .i64 0, .int .i64 0, .int .i64 0, .slice none 0 0, .slice none 0 0, .slice none 0 0] 30))
  have hn : ((w.alloc (.cells #[.int .i64 3, .int .i64 kc, .int .i64 kq, .int .i64 kh, .int .i64 ka, .int .i64 kt, .slice A6 n6 m6, .slice A7 n7 m7, .slice A8 n8 m8] 30)).alloc (.cells #[.int .i64 0, .int .i64 0, .int .i64 0, .int .i64 0, .int .i64 0, .int .i64 0, .slice none 0 0, .slice none 0 0, .slice none 0 0] 30)).heap.size = w.heap.size + 1 + 1 := by simp
  have H0 := Aside0.mk (blk_new ((w.alloc (.cells #[.int .i64 3, .int .i64 kc, .int .i64 kq, .int .i64 kh, .int .i64 ka, .int .i64 kt, .slice A6 n6 m6, .slice A7 n7 m7, .slice A8 n8 m8] 30)).alloc (.cells #[.int .i64 0, .int .i64 0, .int .i64 0, .int .i64 0, .int .i64 0, .int .i64 0, .slice none 0 0, .slice none 0 0, .slice none 0 0] 30)) (.cells #[.int .i64 3, .int .i64 0, .int .i64 0, .int .i64 0, .int .i64 0, .int .i64 0, .slice none 0 0, .slice none 0 0, .slice none 0 0] 30))
  rw [hn] at H0
  have HR := blk_alloc (blk_new (w.alloc (.cells #[.int .i64 3, .int .i64 kc, .int .i64 kq, .int .i64 kh, .int .i64 ka, .int .i64 kt, .slice A6 n6 m6, .slice A7 n7 m7, .slice A8 n8 m8] 30)) (.cells #[.int .i64 0, .int .i64 0, .int .i64 0, .int .i64 0, .int .i64 0, .int .i64 0, .slice none 0 0, .slice none 0 0, .slice none 0 0] 30)) (.cells #[.int .i64 3, .int .i64 0, .int .i64 0, .int .i64 0, .int .i64 0, .int .i64 0, .slice none 0 0, .slice none 0 0, .slice none 0 0] 30)
  rw [show (w.alloc (.cells #[.int .i64 3, .int .i64 kc, .int .i64 kq, .int .i64 kh, .int .i64 ka, .int .i64 kt, .slice A6 n6 m6, .slice A7 n7 m7, .slice A8 n8 m8] 30)).heap.size = w.heap.size + 1 by simp] at HR
  replace HR := Aside0.mk HR
  have HW := Aside0.mk (below_alloc (below_alloc (below_alloc (Below.refl w.heap.size w) (.cells #[.int .i64 3, .int .i64 kc, .int .i64 kq, .int .i64 kh, .int .i64 ka, .int .i64 kt, .slice A6 n6 m6, .slice A7 n7 m7, .slice A8 n8 m8] 30)) (.cells #[.int .i64 0, .int .i64 0, .int .i64 0, .int .i64 0, .int .i64 0, .int .i64 0, .slice none 0 0, .slice none 0 0, .slice none 0 0] 30)) (.cells #[.int .i64 3, .int .i64 0, .int .i64 0, .int .i64 0, .int .i64 0, .int .i64 0, .slice none 0 0, .slice none 0 0, .slice none 0 0] 30))
  clear hn
  go_enter Tryd.func18, Tryd.ntmps18
  go_upto_region 10 with fail
  refine start_ (n := 8) (S := fun w' => True) (ds := []) #[false, false, false, false, false, false, false, false] (by kernel_rfl) rfl rfl trivial (fun hHeld => ?_)
  refine with_tabW askd3Reg.tab10 askd3Reg.bits10 (fun HT_ HW_ => ?_)
  refine pure_ (i := 0) (N := some 26) (v := ?_) (a' := ?_) #[true, false, false, false, false, false, false, false] rfl rfl (any_of HT_.out (by kernel_rfl)) (fun _ _ _ h => h) (Or.inl ⟨by rfl, ?_⟩) ?_ ?_
  rotate_left
  · intro w'
    go_simp
    with_reducible rfl
  rotate_left
  · simp only [Act.put, List.setIfInBounds_toArray, List.set_cons_zero, List.set_cons_succ, i64_w, i32_w]
    rfl
  refine pure_ (i := 2) (N := some 28) (v := ?_) (a' := ?_) #[true, false, true, false, false, false, false, false] rfl rfl (any_of HT_.out (by kernel_rfl)) (fun _ _ _ h => h) (Or.inl ⟨by rfl, ?_⟩) ?_ ?_
  rotate_left
  · intro w'
    go_simp
    with_reducible rfl
  rotate_left
  · simp only [Act.put, List.setIfInBounds_toArray, List.set_cons_zero, List.set_cons_succ, i64_w, i32_w]
    rfl
  refine inv_at [1, 3, 4, 5, 6, 7] (fun a0_ b a w' => a = putSel a0_ b [(1, 27, .int .i64 kc), (3, 29, .int .i64 kq), (4, 30, .pointer (some ⟨w.heap.size + 1 + 1, 1, none⟩)), (6, 31, .pointer (some ⟨w.heap.size + 1 + 1, 2, none⟩))] ∧ (Below w.heap.size w w') ∧ (w'.heap[w.heap.size]? = some (.cells #[.int .i64 3, .int .i64 kc, .int .i64 kq, .int .i64 kh, .int .i64 ka, .int .i64 kt, .slice A6 n6 m6, .slice A7 n7 m7, .slice A8 n8 m8] 30 (0, 0))) ∧ (w'.heap[w.heap.size + 1]? = some (.cells #[.int .i64 0, .int .i64 0, .int .i64 0, .int .i64 0, .int .i64 0, .int .i64 0, .slice none 0 0, .slice none 0 0, .slice none 0 0] 30 (0, 0))) ∧ (b 5 = false → w'.heap[w.heap.size + 1 + 1]? = some (.cells #[.int .i64 3, .int .i64 0, .int .i64 0, .int .i64 0, .int .i64 0, .int .i64 0, .slice none 0 0, .slice none 0 0, .slice none 0 0] 30 (0, 0))) ∧ (b 5 = true → b 7 = false → w'.heap[w.heap.size + 1 + 1]? = some (.cells #[.int .i64 3, .int .i64 kc, .int .i64 0, .int .i64 0, .int .i64 0, .int .i64 0, .slice none 0 0, .slice none 0 0, .slice none 0 0] 30 (0, 0))) ∧ (b 7 = true → w'.heap[w.heap.size + 1 + 1]? = some (.cells #[.int .i64 3, .int .i64 kc, .int .i64 kq, .int .i64 0, .int .i64 0, .int .i64 0, .slice none 0 0, .slice none 0 0, .slice none 0 0] 30 (0, 0)))) HT_.out HW_.out (by kernel_rfl) (by kernel_rfl) ?_ ?_ ?_
  · exact ⟨by simp only [putSel, Bool.false_eq_true, if_false], below_drew HW.out, HG.out, HR.out, fun _ => H0.out, fun h_ => absurd h_ (by decide), fun h_ => absurd h_ (by decide)⟩
  · skip
    clear H0 HG HR HW
    refine steps_cons ?_ ?_
    · rintro b a w' ⟨ha, Q_HW, Q_HG, Q_HR, Q_H0, Q_H1, Q_H2⟩ hb_ hon hoff
      refine ⟨_, rfl, fun K hK => ?_⟩
      have e26 : a.tmps[26]? = some (.pointer (some ⟨w.heap.size, 1, none⟩)) := by rw [ha]; exact (putSel_off rfl).trans rfl
      replace ha := Aside0.mk ha
      have HW := Aside0.mk Q_HW
      have HG := Aside0.mk Q_HG
      have HR := Aside0.mk Q_HR
      have H0 := Aside0.mk (Q_H0 (hoff 5 (by kernel_rfl)))
      have q0 := (blk_cell HG.out 1).trans (rfl : _ = some (Value.int .i64 kc))
      refine value_ (w1 := w') (v := .int .i64 kc) (by rfl) rfl ?_ ?_
      · go_simp
        (try simp only [i64_w])
        try rfl
      refine hK.out _ _ ⟨(by rw [ha.out]; exact putSel_upk 0 hb_ rfl rfl rfl), Q_HW, Q_HG, Q_HR, Q_H0, fun h0_ _ => absurd ((hoff 5 (by kernel_rfl)).symm.trans h0_) (by decide), fun h0_ => absurd ((hoff 7 (by kernel_rfl)).symm.trans h0_) (by decide)⟩
    refine steps_cons ?_ ?_
    · rintro b a w' ⟨ha, Q_HW, Q_HG, Q_HR, Q_H0, Q_H1, Q_H2⟩ hb_ hon hoff
      refine ⟨_, rfl, fun K hK => ?_⟩
      have e28 : a.tmps[28]? = some (.pointer (some ⟨w.heap.size, 2, none⟩)) := by rw [ha]; exact (putSel_off rfl).trans rfl
      replace ha := Aside0.mk ha
      have HW := Aside0.mk Q_HW
      have HG := Aside0.mk Q_HG
      have HR := Aside0.mk Q_HR
      have q0 := (blk_cell HG.out 2).trans (rfl : _ = some (Value.int .i64 kq))
      refine value_ (w1 := w') (v := .int .i64 kq) (by rfl) rfl ?_ ?_
      · go_simp
        (try simp only [i64_w])
        try rfl
      refine hK.out _ _ ⟨(by rw [ha.out]; exact putSel_upk 1 hb_ rfl rfl rfl), Q_HW, Q_HG, Q_HR, Q_H0, Q_H1, fun h0_ => absurd ((hoff 7 (by kernel_rfl)).symm.trans h0_) (by decide)⟩
    refine steps_cons ?_ ?_
    · rintro b a w' ⟨ha, Q_HW, Q_HG, Q_HR, Q_H0, Q_H1, Q_H2⟩ hb_ hon hoff
      refine ⟨_, rfl, fun K hK => ?_⟩
      have e3 : a.tmps[3]? = some (.pointer (some ⟨w.heap.size + 1 + 1, 0, none⟩)) := by rw [ha]; exact (putSel_off rfl).trans rfl
      replace ha := Aside0.mk ha
      have HW := Aside0.mk Q_HW
      have HG := Aside0.mk Q_HG
      have HR := Aside0.mk Q_HR
      have H0 := Aside0.mk (Q_H0 (hoff 5 (by kernel_rfl)))
      refine value_ (w1 := w') (v := .pointer (some ⟨w.heap.size + 1 + 1, 1, none⟩)) (by rfl) rfl ?_ ?_
      · go_simp
        (try simp only [i64_w])
        try rfl
      refine hK.out _ _ ⟨(by rw [ha.out]; exact putSel_upk 2 hb_ rfl rfl rfl), Q_HW, Q_HG, Q_HR, Q_H0, fun h0_ _ => absurd ((hoff 5 (by kernel_rfl)).symm.trans h0_) (by decide), fun h0_ => absurd ((hoff 7 (by kernel_rfl)).symm.trans h0_) (by decide)⟩
    refine steps_cons ?_ ?_
    · rintro b a w' ⟨ha, Q_HW, Q_HG, Q_HR, Q_H0, Q_H1, Q_H2⟩ hb_ hon hoff
      refine ⟨_, rfl, fun K hK => ?_⟩
      have e30 : a.tmps[30]? = some (.pointer (some ⟨w.heap.size + 1 + 1, 1, none⟩)) := by rw [ha]; exact putSel_on (e := (4, 30, .pointer (some ⟨w.heap.size + 1 + 1, 1, none⟩))) 2 rfl rfl (hon 4 (by kernel_rfl)) rfl
      have e27 : a.tmps[27]? = some (.int .i64 kc) := by rw [ha]; exact putSel_on (e := (1, 27, .int .i64 kc)) 0 rfl rfl (hon 1 (by kernel_rfl)) rfl
      replace ha := Aside0.mk ha
      have HW := Aside0.mk Q_HW
      have HG := Aside0.mk Q_HG
      have HR := Aside0.mk Q_HR
      have H0 := Aside0.mk (Q_H0 hb_)
      have z0 := (blk_cell H0.out 1).trans (rfl : _ = some (Value.int .i64 0))
      have f0 := blk_frozen H0.out 1
      have hl := blk_lt H0.out
      refine skip_ (w1 := w'.setCell ⟨w.heap.size + 1 + 1, 1, none⟩ (.int .i64 kc)) (by rfl) rfl (by go_simp) ?_
      refine hK.out _ _ ⟨(by rw [ha.out]; exact putSel_none (v := undef) rfl), below_set HW.out (by show w.heap.size ≤ w.heap.size + 1 + 1; omega), blk_far (p := ⟨w.heap.size + 1 + 1, 1, none⟩) HG.out (by show w.heap.size ≠ w.heap.size + 1 + 1; omega) _, blk_far (p := ⟨w.heap.size + 1 + 1, 1, none⟩) HR.out (by show w.heap.size + 1 ≠ w.heap.size + 1 + 1; omega) _, fun h0_ => absurd ((up_self b 5).symm.trans h0_) (by decide), fun _ _ => blk_put H0.out 1 _ rfl, fun h0_ => absurd ((hoff 7 (by kernel_rfl)).symm.trans h0_) (by decide)⟩
    refine steps_cons ?_ ?_
    · rintro b a w' ⟨ha, Q_HW, Q_HG, Q_HR, Q_H0, Q_H1, Q_H2⟩ hb_ hon hoff
      refine ⟨_, rfl, fun K hK => ?_⟩
      have e3 : a.tmps[3]? = some (.pointer (some ⟨w.heap.size + 1 + 1, 0, none⟩)) := by rw [ha]; exact (putSel_off rfl).trans rfl
      replace ha := Aside0.mk ha
      have HW := Aside0.mk Q_HW
      have HG := Aside0.mk Q_HG
      have HR := Aside0.mk Q_HR
      have H1 := Aside0.mk (Q_H1 (hon 5 (by kernel_rfl)) (hoff 7 (by kernel_rfl)))
      refine value_ (w1 := w') (v := .pointer (some ⟨w.heap.size + 1 + 1, 2, none⟩)) (by rfl) rfl ?_ ?_
      · go_simp
        (try simp only [i64_w])
        try rfl
      refine hK.out _ _ ⟨(by rw [ha.out]; exact putSel_upk 3 hb_ rfl rfl rfl), Q_HW, Q_HG, Q_HR, fun h0_ => absurd ((hon 5 (by kernel_rfl)).symm.trans h0_) (by decide), Q_H1, fun h0_ => absurd ((hoff 7 (by kernel_rfl)).symm.trans h0_) (by decide)⟩
    refine steps_cons ?_ ?_
    · rintro b a w' ⟨ha, Q_HW, Q_HG, Q_HR, Q_H0, Q_H1, Q_H2⟩ hb_ hon hoff
      refine ⟨_, rfl, fun K hK => ?_⟩
      have e31 : a.tmps[31]? = some (.pointer (some ⟨w.heap.size + 1 + 1, 2, none⟩)) := by rw [ha]; exact putSel_on (e := (6, 31, .pointer (some ⟨w.heap.size + 1 + 1, 2, none⟩))) 3 rfl rfl (hon 6 (by kernel_rfl)) rfl
      have e29 : a.tmps[29]? = some (.int .i64 kq) := by rw [ha]; exact putSel_on (e := (3, 29, .int .i64 kq)) 1 rfl rfl (hon 3 (by kernel_rfl)) rfl
      replace ha := Aside0.mk ha
      have HW := Aside0.mk Q_HW
      have HG := Aside0.mk Q_HG
      have HR := Aside0.mk Q_HR
      have H1 := Aside0.mk (Q_H1 (hon 5 (by kernel_rfl)) hb_)
      have z0 := (blk_cell H1.out 2).trans (rfl : _ = some (Value.int .i64 0))
      have f0 := blk_frozen H1.out 2
      have hl := blk_lt H1.out
      refine skip_ (w1 := w'.setCell ⟨w.heap.size + 1 + 1, 2, none⟩ (.int .i64 kq)) (by rfl) rfl (by go_simp) ?_
      refine hK.out _ _ ⟨(by rw [ha.out]; exact putSel_none (v := undef) rfl), below_set HW.out (by show w.heap.size ≤ w.heap.size + 1 + 1; omega), blk_far (p := ⟨w.heap.size + 1 + 1, 2, none⟩) HG.out (by show w.heap.size ≠ w.heap.size + 1 + 1; omega) _, blk_far (p := ⟨w.heap.size + 1 + 1, 2, none⟩) HR.out (by show w.heap.size + 1 ≠ w.heap.size + 1 + 1; omega) _, fun h0_ => absurd ((hon 5 (by kernel_rfl)).symm.trans h0_) (by decide), fun _ h1_ => absurd ((up_self b 7).symm.trans h1_) (by decide), fun _ => blk_put H1.out 2 _ rfl⟩
    exact steps_nil
  · rintro b a w' hall ⟨ha, Q_HW, Q_HG, Q_HR, Q_H0, Q_H1, Q_H2⟩
    clear H0 HG HR HW
    have hb1_ := hall 1 (by kernel_rfl)
    have hb3_ := hall 3 (by kernel_rfl)
    have hb4_ := hall 4 (by kernel_rfl)
    have hb5_ := hall 5 (by kernel_rfl)
    have hb6_ := hall 6 (by kernel_rfl)
    have hb7_ := hall 7 (by kernel_rfl)
    subst ha
    simp only [putSel, hb1_, hb3_, hb4_, hb5_, hb6_, hb7_, if_true, Act.put, List.setIfInBounds_toArray, List.set_cons_zero, List.set_cons_succ]
    have HW := Aside0.mk Q_HW
    clear Q_HW
    have HG := Aside0.mk Q_HG
    clear Q_HG
    have HR := Aside0.mk Q_HR
    clear Q_HR
    clear Q_H0
    clear Q_H1
    have H2 := Aside0.mk (Q_H2 hb7_)
    clear Q_H2
    clear hall hb1_ hb3_ hb4_ hb5_ hb6_ hb7_
    have hl4 := blk_lt H2.out
    have q0 := (blk_cell H2.out 0).trans (rfl : _ = some (Value.int .i64 3))
    have q1 := (blk_cell H2.out 1).trans (rfl : _ = some (Value.int .i64 kc))
    have q2 := (blk_cell H2.out 2).trans (rfl : _ = some (Value.int .i64 kq))
    have q3 := (blk_cell H2.out 3).trans (rfl : _ = some (Value.int .i64 0))
    have q4 := (blk_cell H2.out 4).trans (rfl : _ = some (Value.int .i64 0))
    have q5 := (blk_cell H2.out 5).trans (rfl : _ = some (Value.int .i64 0))
    have q6 := (blk_cell H2.out 6).trans (rfl : _ = some (Value.slice none 0 0))
    have q7 := (blk_cell H2.out 7).trans (rfl : _ = some (Value.slice none 0 0))
    have q8 := (blk_cell H2.out 8).trans (rfl : _ = some (Value.slice none 0 0))
    have z0 := (blk_cell HR.out 0).trans (rfl : _ = some (Value.int .i64 0))
    have z1 := (blk_cell HR.out 1).trans (rfl : _ = some (Value.int .i64 0))
    have z2 := (blk_cell HR.out 2).trans (rfl : _ = some (Value.int .i64 0))
    have z3 := (blk_cell HR.out 3).trans (rfl : _ = some (Value.int .i64 0))
    have z4 := (blk_cell HR.out 4).trans (rfl : _ = some (Value.int .i64 0))
    have z5 := (blk_cell HR.out 5).trans (rfl : _ = some (Value.int .i64 0))
    have z6 := (blk_cell HR.out 6).trans (rfl : _ = some (Value.slice none 0 0))
    have z7 := (blk_cell HR.out 7).trans (rfl : _ = some (Value.slice none 0 0))
    have z8 := (blk_cell HR.out 8).trans (rfl : _ = some (Value.slice none 0 0))
    have f0 := blk_frozen HR.out 0
    have f1 := blk_frozen HR.out 1
    have f2 := blk_frozen HR.out 2
    have f3 := blk_frozen HR.out 3
    have f4 := blk_frozen HR.out 4
    have f5 := blk_frozen HR.out 5
    have f6 := blk_frozen HR.out 6
    have f7 := blk_frozen HR.out 7
    have f8 := blk_frozen HR.out 8
    have hl2 := blk_lt HR.out
    have HF := (blk_put (blk_put (blk_put (blk_put (blk_put (blk_put (blk_put (blk_put (blk_put HR.out 0 (.int .i64 3) rfl) 1 (.int .i64 kc) rfl) 2 (.int .i64 kq) rfl) 3 (.int .i64 0) rfl) 4 (.int .i64 0) rfl) 5 (.int .i64 0) rfl) 6 (.slice none 0 0) rfl) 7 (.slice none 0 0) rfl) 8 (.slice none 0 0) rfl)
    have HQ := Aside0.mk (And.intro (blk_cell HF 0) (And.intro (blk_cell HF 1) (And.intro (blk_cell HF 2) (And.intro (blk_cell HF 3) (And.intro (blk_cell HF 4) (And.intro (blk_cell HF 5) (And.intro (blk_cell HF 6) (And.intro (blk_cell HF 7) (blk_cell HF 8)))))))))
    have HBf : Aside0 (Below w.heap.size w (((((((((w'.setCell ⟨w.heap.size + 1, 0, none⟩ (Value.int .i64 3)).setCell ⟨w.heap.size + 1, 1, none⟩ (Value.int .i64 kc)).setCell ⟨w.heap.size + 1, 2, none⟩ (Value.int .i64 kq)).setCell ⟨w.heap.size + 1, 3, none⟩ (Value.int .i64 0)).setCell ⟨w.heap.size + 1, 4, none⟩ (Value.int .i64 0)).setCell ⟨w.heap.size + 1, 5, none⟩ (Value.int .i64 0)).setCell ⟨w.heap.size + 1, 6, none⟩ (Value.slice none 0 0)).setCell ⟨w.heap.size + 1, 7, none⟩ (Value.slice none 0 0)).setCell ⟨w.heap.size + 1, 8, none⟩ (Value.slice none 0 0))) := ⟨(below_set (below_set (below_set (below_set (below_set (below_set (below_set (below_set (below_set HW.out (Nat.le_succ _)) (Nat.le_succ _)) (Nat.le_succ _)) (Nat.le_succ _)) (Nat.le_succ _)) (Nat.le_succ _)) (Nat.le_succ _)) (Nat.le_succ _)) (Nat.le_succ _))⟩
    clear HF HG
    go_wp2
    generalize (((((((((w'.setCell ⟨w.heap.size + 1, 0, none⟩ (Value.int .i64 3)).setCell ⟨w.heap.size + 1, 1, none⟩ (Value.int .i64 kc)).setCell ⟨w.heap.size + 1, 2, none⟩ (Value.int .i64 kq)).setCell ⟨w.heap.size + 1, 3, none⟩ (Value.int .i64 0)).setCell ⟨w.heap.size + 1, 4, none⟩ (Value.int .i64 0)).setCell ⟨w.heap.size + 1, 5, none⟩ (Value.int .i64 0)).setCell ⟨w.heap.size + 1, 6, none⟩ (Value.slice none 0 0)).setCell ⟨w.heap.size + 1, 7, none⟩ (Value.slice none 0 0)).setCell ⟨w.heap.size + 1, 8, none⟩ (Value.slice none 0 0)) = w9 at HQ HBf ⊢
    clear HW HR H2
    clear q0 z0 f0 q1 z1 f1 q2 z2 f2 q3 z3 f3 q4 z4 f4 q5 z5 f5 q6 z6 f6 q7 z7 f7 q8 z8 f8
    obtain ⟨q0, q1, q2, q3, q4, q5, q6, q7, q8⟩ := HQ.out
    refine bodyPost_ret (v := opV 3 kc kq 0 0 0 none 0 0 none 0 0 none 0 0) (by simp [results, Tryd.results18, go_sem, q0, q1, q2, q3, q4, q5, q6, q7, q8]) rfl ⟨rfl, HBf.out⟩
set_option maxRecDepth 100000 in
set_option maxHeartbeats 4000000 in
theorem asked_5 (kc kq kh ka kt : Int) (A6 : Option Addr) (n6 m6 : Nat) (A7 : Option Addr) (n7 m7 : Nat) (A8 : Option Addr) (n8 m8 : Nat) (w : World) :
    Calls Tryd.prog 18 #[opV 5 kc kq kh ka kt A6 n6 m6 A7 n7 m7 A8 n8 m8] w fun e w' => e = .returned  (opV 5 kc kq 0 0 0 none 0 0 none 0 0 none 0 0) ∧ Below w.heap.size w w' := by
  have HG := Aside0.mk (blk_alloc (blk_alloc (blk_new w (.cells #[.int .i64 5, .int .i64 kc, .int .i64 kq, .int .i64 kh, .int .i64 ka, .int .i64 kt, .slice A6 n6 m6, .slice A7 n7 m7, .slice A8 n8 m8] 30)) (.cells #[.int .i64 0, .int .i64 0, .int .i64 0, .int .i64 0, .int .i64 0, .int .i64 0, .slice none 0 0, .slice none 0 0, .slice none 0 0] 30)) (.cells #[.int .i64 5, .int .i64 0, .int .i64 0, .int .i64 0, .int .i64 0, .int .i64 0, .slice none 0 0, .slice none 0 0, .slice none 0 0] 30))
  have hn : ((w.alloc (.cells #[.int .i64 5, .int .i64 kc, .int .i64 kq, .int .i64 kh, .int .i64 ka, .int .i64 kt, .slice A6 n6 m6, .slice A7 n7 m7, .slice A8 n8 m8] 30)).alloc (.cells #[.int .i64 0, .int .i64 0, .int .i64 0, .int .i64 0, .int .i64 0, .int .i64 0, .slice none 0 0, .slice none 0 0, .slice none 0 0] 30)).heap.size = w.heap.size + 1 + 1 := by simp
  have H0 := Aside0.mk (blk_new ((w.alloc (.cells #[.int .i64 5, .int .i64 kc, .int .i64 kq, .int .i64 kh, .int .i64 ka, .int .i64 kt, .slice A6 n6 m6, .slice A7 n7 m7, .slice A8 n8 m8] 30)).alloc (.cells #[.int .i64 0, .int .i64 0, .int .i64 0, .int .i64 0, .int .i64 0, .int .i64 0, .slice none 0 0, .slice none 0 0, .slice none 0 0] 30)) (.cells #[.int .i64 5, .int .i64 0, .int .i64 0, .int .i64 0, .int .i64 0, .int .i64 0, .slice none 0 0, .slice none 0 0, .slice none 0 0] 30))
  rw [hn] at H0
  have HR := blk_alloc (blk_new (w.alloc (.cells #[.int .i64 5, .int .i64 kc, .int .i64 kq, .int .i64 kh, .int .i64 ka, .int .i64 kt, .slice A6 n6 m6, .slice A7 n7 m7, .slice A8 n8 m8] 30)) (.cells #[.int .i64 0, .int .i64 0, .int .i64 0, .int .i64 0, .int .i64 0, .int .i64 0, .slice none 0 0, .slice none 0 0, .slice none 0 0] 30)) (.cells #[.int .i64 5, .int .i64 0, .int .i64 0, .int .i64 0, .int .i64 0, .int .i64 0, .slice none 0 0, .slice none 0 0, .slice none 0 0] 30)
  rw [show (w.alloc (.cells #[.int .i64 5, .int .i64 kc, .int .i64 kq, .int .i64 kh, .int .i64 ka, .int .i64 kt, .slice A6 n6 m6, .slice A7 n7 m7, .slice A8 n8 m8] 30)).heap.size = w.heap.size + 1 by simp] at HR
  replace HR := Aside0.mk HR
  have HW := Aside0.mk (below_alloc (below_alloc (below_alloc (Below.refl w.heap.size w) (.cells #[.int .i64 5, .int .i64 kc, .int .i64 kq, .int .i64 kh, .int .i64 ka, .int .i64 kt, .slice A6 n6 m6, .slice A7 n7 m7, .slice A8 n8 m8] 30)) (.cells #[.int .i64 0, .int .i64 0, .int .i64 0, .int .i64 0, .int .i64 0, .int .i64 0, .slice none 0 0, .slice none 0 0, .slice none 0 0] 30)) (.cells #[.int .i64 5, .int .i64 0, .int .i64 0, .int .i64 0, .int .i64 0, .int .i64 0, .slice none 0 0, .slice none 0 0, .slice none 0 0] 30))
  clear hn
  go_enter Tryd.func18, Tryd.ntmps18
  go_upto_region 10 with fail
  refine start_ (n := 8) (S := fun w' => True) (ds := []) #[false, false, false, false, false, false, false, false] (by kernel_rfl) rfl rfl trivial (fun hHeld => ?_)
  refine with_tabW askd5Reg.tab10 askd5Reg.bits10 (fun HT_ HW_ => ?_)
  refine pure_ (i := 0) (N := some 26) (v := ?_) (a' := ?_) #[true, false, false, false, false, false, false, false] rfl rfl (any_of HT_.out (by kernel_rfl)) (fun _ _ _ h => h) (Or.inl ⟨by rfl, ?_⟩) ?_ ?_
  rotate_left
  · intro w'
    go_simp
    with_reducible rfl
  rotate_left
  · simp only [Act.put, List.setIfInBounds_toArray, List.set_cons_zero, List.set_cons_succ, i64_w, i32_w]
    rfl
  refine pure_ (i := 2) (N := some 28) (v := ?_) (a' := ?_) #[true, false, true, false, false, false, false, false] rfl rfl (any_of HT_.out (by kernel_rfl)) (fun _ _ _ h => h) (Or.inl ⟨by rfl, ?_⟩) ?_ ?_
  rotate_left
  · intro w'
    go_simp
    with_reducible rfl
  rotate_left
  · simp only [Act.put, List.setIfInBounds_toArray, List.set_cons_zero, List.set_cons_succ, i64_w, i32_w]
    rfl
  refine inv_at [1, 3, 4, 5, 6, 7] (fun a0_ b a w' => a = putSel a0_ b [(1, 27, .int .i64 kc), (3, 29, .int .i64 kq), (4, 30, .pointer (some ⟨w.heap.size + 1 + 1, 1, none⟩)), (6, 31, .pointer (some ⟨w.heap.size + 1 + 1, 2, none⟩))] ∧ (Below w.heap.size w w') ∧ (w'.heap[w.heap.size]? = some (.cells #[.int .i64 5, .int .i64 kc, .int .i64 kq, .int .i64 kh, .int .i64 ka, .int .i64 kt, .slice A6 n6 m6, .slice A7 n7 m7, .slice A8 n8 m8] 30 (0, 0))) ∧ (w'.heap[w.heap.size + 1]? = some (.cells #[.int .i64 0, .int .i64 0, .int .i64 0, .int .i64 0, .int .i64 0, .int .i64 0, .slice none 0 0, .slice none 0 0, .slice none 0 0] 30 (0, 0))) ∧ (b 5 = false → w'.heap[w.heap.size + 1 + 1]? = some (.cells #[.int .i64 5, .int .i64 0, .int .i64 0, .int .i64 0, .int .i64 0, .int .i64 0, .slice none 0 0, .slice none 0 0, .slice none 0 0] 30 (0, 0))) ∧ (b 5 = true → b 7 = false → w'.heap[w.heap.size + 1 + 1]? = some (.cells #[.int .i64 5, .int .i64 kc, .int .i64 0, .int .i64 0, .int .i64 0, .int .i64 0, .slice none 0 0, .slice none 0 0, .slice none 0 0] 30 (0, 0))) ∧ (b 7 = true → w'.heap[w.heap.size + 1 + 1]? = some (.cells #[.int .i64 5, .int .i64 kc, .int .i64 kq, .int .i64 0, .int .i64 0, .int .i64 0, .slice none 0 0, .slice none 0 0, .slice none 0 0] 30 (0, 0)))) HT_.out HW_.out (by kernel_rfl) (by kernel_rfl) ?_ ?_ ?_
  · exact ⟨by simp only [putSel, Bool.false_eq_true, if_false], below_drew HW.out, HG.out, HR.out, fun _ => H0.out, fun h_ => absurd h_ (by decide), fun h_ => absurd h_ (by decide)⟩
  · skip
    clear H0 HG HR HW
    refine steps_cons ?_ ?_
    · rintro b a w' ⟨ha, Q_HW, Q_HG, Q_HR, Q_H0, Q_H1, Q_H2⟩ hb_ hon hoff
      refine ⟨_, rfl, fun K hK => ?_⟩
      have e26 : a.tmps[26]? = some (.pointer (some ⟨w.heap.size, 1, none⟩)) := by rw [ha]; exact (putSel_off rfl).trans rfl
      replace ha := Aside0.mk ha
      have HW := Aside0.mk Q_HW
      have HG := Aside0.mk Q_HG
      have HR := Aside0.mk Q_HR
      have H0 := Aside0.mk (Q_H0 (hoff 5 (by kernel_rfl)))
      have q0 := (blk_cell HG.out 1).trans (rfl : _ = some (Value.int .i64 kc))
      refine value_ (w1 := w') (v := .int .i64 kc) (by rfl) rfl ?_ ?_
      · go_simp
        (try simp only [i64_w])
        try rfl
      refine hK.out _ _ ⟨(by rw [ha.out]; exact putSel_upk 0 hb_ rfl rfl rfl), Q_HW, Q_HG, Q_HR, Q_H0, fun h0_ _ => absurd ((hoff 5 (by kernel_rfl)).symm.trans h0_) (by decide), fun h0_ => absurd ((hoff 7 (by kernel_rfl)).symm.trans h0_) (by decide)⟩
    refine steps_cons ?_ ?_
    · rintro b a w' ⟨ha, Q_HW, Q_HG, Q_HR, Q_H0, Q_H1, Q_H2⟩ hb_ hon hoff
      refine ⟨_, rfl, fun K hK => ?_⟩
      have e28 : a.tmps[28]? = some (.pointer (some ⟨w.heap.size, 2, none⟩)) := by rw [ha]; exact (putSel_off rfl).trans rfl
      replace ha := Aside0.mk ha
      have HW := Aside0.mk Q_HW
      have HG := Aside0.mk Q_HG
      have HR := Aside0.mk Q_HR
      have q0 := (blk_cell HG.out 2).trans (rfl : _ = some (Value.int .i64 kq))
      refine value_ (w1 := w') (v := .int .i64 kq) (by rfl) rfl ?_ ?_
      · go_simp
        (try simp only [i64_w])
        try rfl
      refine hK.out _ _ ⟨(by rw [ha.out]; exact putSel_upk 1 hb_ rfl rfl rfl), Q_HW, Q_HG, Q_HR, Q_H0, Q_H1, fun h0_ => absurd ((hoff 7 (by kernel_rfl)).symm.trans h0_) (by decide)⟩
    refine steps_cons ?_ ?_
    · rintro b a w' ⟨ha, Q_HW, Q_HG, Q_HR, Q_H0, Q_H1, Q_H2⟩ hb_ hon hoff
      refine ⟨_, rfl, fun K hK => ?_⟩
      have e3 : a.tmps[3]? = some (.pointer (some ⟨w.heap.size + 1 + 1, 0, none⟩)) := by rw [ha]; exact (putSel_off rfl).trans rfl
      replace ha := Aside0.mk ha
      have HW := Aside0.mk Q_HW
      have HG := Aside0.mk Q_HG
      have HR := Aside0.mk Q_HR
      have H0 := Aside0.mk (Q_H0 (hoff 5 (by kernel_rfl)))
      refine value_ (w1 := w') (v := .pointer (some ⟨w.heap.size + 1 + 1, 1, none⟩)) (by rfl) rfl ?_ ?_
      · go_simp
        (try simp only [i64_w])
        try rfl
      refine hK.out _ _ ⟨(by rw [ha.out]; exact putSel_upk 2 hb_ rfl rfl rfl), Q_HW, Q_HG, Q_HR, Q_H0, fun h0_ _ => absurd ((hoff 5 (by kernel_rfl)).symm.trans h0_) (by decide), fun h0_ => absurd ((hoff 7 (by kernel_rfl)).symm.trans h0_) (by decide)⟩
    refine steps_cons ?_ ?_
    · rintro b a w' ⟨ha, Q_HW, Q_HG, Q_HR, Q_H0, Q_H1, Q_H2⟩ hb_ hon hoff
      refine ⟨_, rfl, fun K hK => ?_⟩
      have e30 : a.tmps[30]? = some (.pointer (some ⟨w.heap.size + 1 + 1, 1, none⟩)) := by rw [ha]; exact putSel_on (e := (4, 30, .pointer (some ⟨w.heap.size + 1 + 1, 1, none⟩))) 2 rfl rfl (hon 4 (by kernel_rfl)) rfl
      have e27 : a.tmps[27]? = some (.int .i64 kc) := by rw [ha]; exact putSel_on (e := (1, 27, .int .i64 kc)) 0 rfl rfl (hon 1 (by kernel_rfl)) rfl
      replace ha := Aside0.mk ha
      have HW := Aside0.mk Q_HW
      have HG := Aside0.mk Q_HG
      have HR := Aside0.mk Q_HR
      have H0 := Aside0.mk (Q_H0 hb_)
      have z0 := (blk_cell H0.out 1).trans (rfl : _ = some (Value.int .i64 0))
      have f0 := blk_frozen H0.out 1
      have hl := blk_lt H0.out
      refine skip_ (w1 := w'.setCell ⟨w.heap.size + 1 + 1, 1, none⟩ (.int .i64 kc)) (by rfl) rfl (by go_simp) ?_
      refine hK.out _ _ ⟨(by rw [ha.out]; exact putSel_none (v := undef) rfl), below_set HW.out (by show w.heap.size ≤ w.heap.size + 1 + 1; omega), blk_far (p := ⟨w.heap.size + 1 + 1, 1, none⟩) HG.out (by show w.heap.size ≠ w.heap.size + 1 + 1; omega) _, blk_far (p := ⟨w.heap.size + 1 + 1, 1, none⟩) HR.out (by show w.heap.size + 1 ≠ w.heap.size + 1 + 1; omega) _, fun h0_ => absurd ((up_self b 5).symm.trans h0_) (by decide), fun _ _ => blk_put H0.out 1 _ rfl, fun h0_ => absurd ((hoff 7 (by kernel_rfl)).symm.trans h0_) (by decide)⟩
    refine steps_cons ?_ ?_
    · rintro b a w' ⟨ha, Q_HW, Q_HG, Q_HR, Q_H0, Q_H1, Q_H2⟩ hb_ hon hoff
      refine ⟨_, rfl, fun K hK => ?_⟩
      have e3 : a.tmps[3]? = some (.pointer (some ⟨w.heap.size + 1 + 1, 0, none⟩)) := by rw [ha]; exact (putSel_off rfl).trans rfl
      replace ha := Aside0.mk ha
      have HW := Aside0.mk Q_HW
      have HG := Aside0.mk Q_HG
      have HR := Aside0.mk Q_HR
      have H1 := Aside0.mk (Q_H1 (hon 5 (by kernel_rfl)) (hoff 7 (by kernel_rfl)))
      refine value_ (w1 := w') (v := .pointer (some ⟨w.heap.size + 1 + 1, 2, none⟩)) (by rfl) rfl ?_ ?_
      · go_simp
        (try simp only [i64_w])
        try rfl
      refine hK.out _ _ ⟨(by rw [ha.out]; exact putSel_upk 3 hb_ rfl rfl rfl), Q_HW, Q_HG, Q_HR, fun h0_ => absurd ((hon 5 (by kernel_rfl)).symm.trans h0_) (by decide), Q_H1, fun h0_ => absurd ((hoff 7 (by kernel_rfl)).symm.trans h0_) (by decide)⟩
    refine steps_cons ?_ ?_
    · rintro b a w' ⟨ha, Q_HW, Q_HG, Q_HR, Q_H0, Q_H1, Q_H2⟩ hb_ hon hoff
      refine ⟨_, rfl, fun K hK => ?_⟩
      have e31 : a.tmps[31]? = some (.pointer (some ⟨w.heap.size + 1 + 1, 2, none⟩)) := by rw [ha]; exact putSel_on (e := (6, 31, .pointer (some ⟨w.heap.size + 1 + 1, 2, none⟩))) 3 rfl rfl (hon 6 (by kernel_rfl)) rfl
      have e29 : a.tmps[29]? = some (.int .i64 kq) := by rw [ha]; exact putSel_on (e := (3, 29, .int .i64 kq)) 1 rfl rfl (hon 3 (by kernel_rfl)) rfl
      replace ha := Aside0.mk ha
      have HW := Aside0.mk Q_HW
      have HG := Aside0.mk Q_HG
      have HR := Aside0.mk Q_HR
      have H1 := Aside0.mk (Q_H1 (hon 5 (by kernel_rfl)) hb_)
      have z0 := (blk_cell H1.out 2).trans (rfl : _ = some (Value.int .i64 0))
      have f0 := blk_frozen H1.out 2
      have hl := blk_lt H1.out
      refine skip_ (w1 := w'.setCell ⟨w.heap.size + 1 + 1, 2, none⟩ (.int .i64 kq)) (by rfl) rfl (by go_simp) ?_
      refine hK.out _ _ ⟨(by rw [ha.out]; exact putSel_none (v := undef) rfl), below_set HW.out (by show w.heap.size ≤ w.heap.size + 1 + 1; omega), blk_far (p := ⟨w.heap.size + 1 + 1, 2, none⟩) HG.out (by show w.heap.size ≠ w.heap.size + 1 + 1; omega) _, blk_far (p := ⟨w.heap.size + 1 + 1, 2, none⟩) HR.out (by show w.heap.size + 1 ≠ w.heap.size + 1 + 1; omega) _, fun h0_ => absurd ((hon 5 (by kernel_rfl)).symm.trans h0_) (by decide), fun _ h1_ => absurd ((up_self b 7).symm.trans h1_) (by decide), fun _ => blk_put H1.out 2 _ rfl⟩
    exact steps_nil
  · rintro b a w' hall ⟨ha, Q_HW, Q_HG, Q_HR, Q_H0, Q_H1, Q_H2⟩
    clear H0 HG HR HW
    have hb1_ := hall 1 (by kernel_rfl)
    have hb3_ := hall 3 (by kernel_rfl)
    have hb4_ := hall 4 (by kernel_rfl)
    have hb5_ := hall 5 (by kernel_rfl)
    have hb6_ := hall 6 (by kernel_rfl)
    have hb7_ := hall 7 (by kernel_rfl)
    subst ha
    simp only [putSel, hb1_, hb3_, hb4_, hb5_, hb6_, hb7_, if_true, Act.put, List.setIfInBounds_toArray, List.set_cons_zero, List.set_cons_succ]
    have HW := Aside0.mk Q_HW
    clear Q_HW
    have HG := Aside0.mk Q_HG
    clear Q_HG
    have HR := Aside0.mk Q_HR
    clear Q_HR
    clear Q_H0
    clear Q_H1
    have H2 := Aside0.mk (Q_H2 hb7_)
    clear Q_H2
    clear hall hb1_ hb3_ hb4_ hb5_ hb6_ hb7_
    have hl4 := blk_lt H2.out
    have q0 := (blk_cell H2.out 0).trans (rfl : _ = some (Value.int .i64 5))
    have q1 := (blk_cell H2.out 1).trans (rfl : _ = some (Value.int .i64 kc))
    have q2 := (blk_cell H2.out 2).trans (rfl : _ = some (Value.int .i64 kq))
    have q3 := (blk_cell H2.out 3).trans (rfl : _ = some (Value.int .i64 0))
    have q4 := (blk_cell H2.out 4).trans (rfl : _ = some (Value.int .i64 0))
    have q5 := (blk_cell H2.out 5).trans (rfl : _ = some (Value.int .i64 0))
    have q6 := (blk_cell H2.out 6).trans (rfl : _ = some (Value.slice none 0 0))
    have q7 := (blk_cell H2.out 7).trans (rfl : _ = some (Value.slice none 0 0))
    have q8 := (blk_cell H2.out 8).trans (rfl : _ = some (Value.slice none 0 0))
    have z0 := (blk_cell HR.out 0).trans (rfl : _ = some (Value.int .i64 0))
    have z1 := (blk_cell HR.out 1).trans (rfl : _ = some (Value.int .i64 0))
    have z2 := (blk_cell HR.out 2).trans (rfl : _ = some (Value.int .i64 0))
    have z3 := (blk_cell HR.out 3).trans (rfl : _ = some (Value.int .i64 0))
    have z4 := (blk_cell HR.out 4).trans (rfl : _ = some (Value.int .i64 0))
    have z5 := (blk_cell HR.out 5).trans (rfl : _ = some (Value.int .i64 0))
    have z6 := (blk_cell HR.out 6).trans (rfl : _ = some (Value.slice none 0 0))
    have z7 := (blk_cell HR.out 7).trans (rfl : _ = some (Value.slice none 0 0))
    have z8 := (blk_cell HR.out 8).trans (rfl : _ = some (Value.slice none 0 0))
    have f0 := blk_frozen HR.out 0
    have f1 := blk_frozen HR.out 1
    have f2 := blk_frozen HR.out 2
    have f3 := blk_frozen HR.out 3
    have f4 := blk_frozen HR.out 4
    have f5 := blk_frozen HR.out 5
    have f6 := blk_frozen HR.out 6
    have f7 := blk_frozen HR.out 7
    have f8 := blk_frozen HR.out 8
    have hl2 := blk_lt HR.out
    have HF := (blk_put (blk_put (blk_put (blk_put (blk_put (blk_put (blk_put (blk_put (blk_put HR.out 0 (.int .i64 5) rfl) 1 (.int .i64 kc) rfl) 2 (.int .i64 kq) rfl) 3 (.int .i64 0) rfl) 4 (.int .i64 0) rfl) 5 (.int .i64 0) rfl) 6 (.slice none 0 0) rfl) 7 (.slice none 0 0) rfl) 8 (.slice none 0 0) rfl)
    have HQ := Aside0.mk (And.intro (blk_cell HF 0) (And.intro (blk_cell HF 1) (And.intro (blk_cell HF 2) (And.intro (blk_cell HF 3) (And.intro (blk_cell HF 4) (And.intro (blk_cell HF 5) (And.intro (blk_cell HF 6) (And.intro (blk_cell HF 7) (blk_cell HF 8)))))))))
    have HBf : Aside0 (Below w.heap.size w (((((((((w'.setCell ⟨w.heap.size + 1, 0, none⟩ (Value.int .i64 5)).setCell ⟨w.heap.size + 1, 1, none⟩ (Value.int .i64 kc)).setCell ⟨w.heap.size + 1, 2, none⟩ (Value.int .i64 kq)).setCell ⟨w.heap.size + 1, 3, none⟩ (Value.int .i64 0)).setCell ⟨w.heap.size + 1, 4, none⟩ (Value.int .i64 0)).setCell ⟨w.heap.size + 1, 5, none⟩ (Value.int .i64 0)).setCell ⟨w.heap.size + 1, 6, none⟩ (Value.slice none 0 0)).setCell ⟨w.heap.size + 1, 7, none⟩ (Value.slice none 0 0)).setCell ⟨w.heap.size + 1, 8, none⟩ (Value.slice none 0 0))) := ⟨(below_set (below_set (below_set (below_set (below_set (below_set (below_set (below_set (below_set HW.out (Nat.le_succ _)) (Nat.le_succ _)) (Nat.le_succ _)) (Nat.le_succ _)) (Nat.le_succ _)) (Nat.le_succ _)) (Nat.le_succ _)) (Nat.le_succ _)) (Nat.le_succ _))⟩
    clear HF HG
    go_wp2
    generalize (((((((((w'.setCell ⟨w.heap.size + 1, 0, none⟩ (Value.int .i64 5)).setCell ⟨w.heap.size + 1, 1, none⟩ (Value.int .i64 kc)).setCell ⟨w.heap.size + 1, 2, none⟩ (Value.int .i64 kq)).setCell ⟨w.heap.size + 1, 3, none⟩ (Value.int .i64 0)).setCell ⟨w.heap.size + 1, 4, none⟩ (Value.int .i64 0)).setCell ⟨w.heap.size + 1, 5, none⟩ (Value.int .i64 0)).setCell ⟨w.heap.size + 1, 6, none⟩ (Value.slice none 0 0)).setCell ⟨w.heap.size + 1, 7, none⟩ (Value.slice none 0 0)).setCell ⟨w.heap.size + 1, 8, none⟩ (Value.slice none 0 0)) = w9 at HQ HBf ⊢
    clear HW HR H2
    clear q0 z0 f0 q1 z1 f1 q2 z2 f2 q3 z3 f3 q4 z4 f4 q5 z5 f5 q6 z6 f6 q7 z7 f7 q8 z8 f8
    obtain ⟨q0, q1, q2, q3, q4, q5, q6, q7, q8⟩ := HQ.out
    refine bodyPost_ret (v := opV 5 kc kq 0 0 0 none 0 0 none 0 0 none 0 0) (by simp [results, Tryd.results18, go_sem, q0, q1, q2, q3, q4, q5, q6, q7, q8]) rfl ⟨rfl, HBf.out⟩
set_option maxRecDepth 100000 in
set_option maxHeartbeats 4000000 in
theorem asked_7 (kc kq kh ka kt : Int) (A6 : Option Addr) (n6 m6 : Nat) (A7 : Option Addr) (n7 m7 : Nat) (A8 : Option Addr) (n8 m8 : Nat) (w : World) :
    Calls Tryd.prog 18 #[opV 7 kc kq kh ka kt A6 n6 m6 A7 n7 m7 A8 n8 m8] w fun e w' => e = .returned  (opV 7 kc 0 0 0 0 none 0 0 none 0 0 none 0 0) ∧ Below w.heap.size w w' := by
  go_enter Tryd.func18, Tryd.ntmps18
  go_wp2
  refine bodyPost_ret (v := opV 7 kc 0 0 0 0 none 0 0 none 0 0 none 0 0) (by simp [results, Tryd.results18, go_sem]) rfl ⟨rfl, ?_⟩
  repeat (first | exact Below.refl _ _ | apply below_alloc)
set_option maxRecDepth 100000 in
set_option maxHeartbeats 4000000 in
theorem asked_6 (kc kq kh ka kt : Int) (A6 : Option Addr) (n6 m6 : Nat) (A7 : Option Addr) (n7 m7 : Nat) (A8 : Option Addr) (n8 m8 : Nat) (w : World) :
    Calls Tryd.prog 18 #[opV 6 kc kq kh ka kt A6 n6 m6 A7 n7 m7 A8 n8 m8] w fun e w' => e = .returned  (opV 6 kc 0 kh 0 0 none 0 0 A7 n7 m7 none 0 0) ∧ Below w.heap.size w w' := by
  have HG := Aside0.mk (blk_alloc (blk_alloc (blk_new w (.cells #[.int .i64 6, .int .i64 kc, .int .i64 kq, .int .i64 kh, .int .i64 ka, .int .i64 kt, .slice A6 n6 m6, .slice A7 n7 m7, .slice A8 n8 m8] 30)) (.cells #[.int .i64 0, .int .i64 0, .int .i64 0, .int .i64 0, .int .i64 0, .int .i64 0, .slice none 0 0, .slice none 0 0, .slice none 0 0] 30)) (.cells #[.int .i64 6, .int .i64 0, .int .i64 0, .int .i64 0, .int .i64 0, .int .i64 0, .slice none 0 0, .slice none 0 0, .slice none 0 0] 30))
  have hn : ((w.alloc (.cells #[.int .i64 6, .int .i64 kc, .int .i64 kq, .int .i64 kh, .int .i64 ka, .int .i64 kt, .slice A6 n6 m6, .slice A7 n7 m7, .slice A8 n8 m8] 30)).alloc (.cells #[.int .i64 0, .int .i64 0, .int .i64 0, .int .i64 0, .int .i64 0, .int .i64 0, .slice none 0 0, .slice none 0 0, .slice none 0 0] 30)).heap.size = w.heap.size + 1 + 1 := by simp
  have H0 := Aside0.mk (blk_new ((w.alloc (.cells #[.int .i64 6, .int .i64 kc, .int .i64 kq, .int .i64 kh, .int .i64 ka, .int .i64 kt, .slice A6 n6 m6, .slice A7 n7 m7, .slice A8 n8 m8] 30)).alloc (.cells #[.int .i64 0, .int .i64 0, .int .i64 0, .int .i64 0, .int .i64 0, .int .i64 0, .slice none 0 0, .slice none 0 0, .slice none 0 0] 30)) (.cells #[.int .i64 6, .int .i64 0, .int .i64 0, .int .i64 0, .int .i64 0, .int .i64 0, .slice none 0 0, .slice none 0 0, .slice none 0 0] 30))
  rw [hn] at H0
  have HR := blk_alloc (blk_new (w.alloc (.cells #[.int .i64 6, .int .i64 kc, .int .i64 kq, .int .i64 kh, .int .i64 ka, .int .i64 kt, .slice A6 n6 m6, .slice A7 n7 m7, .slice A8 n8 m8] 30)) (.cells #[.int .i64 0, .int .i64 0, .int .i64 0, .int .i64 0, .int .i64 0, .int .i64 0, .slice none 0 0, .slice none 0 0, .slice none 0 0] 30)) (.cells #[.int .i64 6, .int .i64 0, .int .i64 0, .int .i64 0, .int .i64 0, .int .i64 0, .slice none 0 0, .slice none 0 0, .slice none 0 0] 30)
  rw [show (w.alloc (.cells #[.int .i64 6, .int .i64 kc, .int .i64 kq, .int .i64 kh, .int .i64 ka, .int .i64 kt, .slice A6 n6 m6, .slice A7 n7 m7, .slice A8 n8 m8] 30)).heap.size = w.heap.size + 1 by simp] at HR
  replace HR := Aside0.mk HR
  have HW := Aside0.mk (below_alloc (below_alloc (below_alloc (Below.refl w.heap.size w) (.cells #[.int .i64 6, .int .i64 kc, .int .i64 kq, .int .i64 kh, .int .i64 ka, .int .i64 kt, .slice A6 n6 m6, .slice A7 n7 m7, .slice A8 n8 m8] 30)) (.cells #[.int .i64 0, .int .i64 0, .int .i64 0, .int .i64 0, .int .i64 0, .int .i64 0, .slice none 0 0, .slice none 0 0, .slice none 0 0] 30)) (.cells #[.int .i64 6, .int .i64 0, .int .i64 0, .int .i64 0, .int .i64 0, .int .i64 0, .slice none 0 0, .slice none 0 0, .slice none 0 0] 30))
  clear hn
  go_enter Tryd.func18, Tryd.ntmps18
  go_upto_region 12 with fail
  refine start_ (n := 12) (S := fun w' => True) (ds := []) #[false, false, false, false, false, false, false, false, false, false, false, false] (by kernel_rfl) rfl rfl trivial (fun hHeld => ?_)
  refine with_tabW askd6Reg.tab12 askd6Reg.bits12 (fun HT_ HW_ => ?_)
  refine pure_ (i := 0) (N := some 34) (v := ?_) (a' := ?_) #[true, false, false, false, false, false, false, false, false, false, false, false] rfl rfl (any_of HT_.out (by kernel_rfl)) (fun _ _ _ h => h) (Or.inl ⟨by rfl, ?_⟩) ?_ ?_
  rotate_left
  · intro w'
    go_simp
    with_reducible rfl
  rotate_left
  · simp only [Act.put, List.setIfInBounds_toArray, List.set_cons_zero, List.set_cons_succ, i64_w, i32_w]
    rfl
  refine pure_ (i := 2) (N := some 36) (v := ?_) (a' := ?_) #[true, false, true, false, false, false, false, false, false, false, false, false] rfl rfl (any_of HT_.out (by kernel_rfl)) (fun _ _ _ h => h) (Or.inl ⟨by rfl, ?_⟩) ?_ ?_
  rotate_left
  · intro w'
    go_simp
    with_reducible rfl
  rotate_left
  · simp only [Act.put, List.setIfInBounds_toArray, List.set_cons_zero, List.set_cons_succ, i64_w, i32_w]
    rfl
  refine pure_ (i := 4) (N := some 38) (v := ?_) (a' := ?_) #[true, false, true, false, true, false, false, false, false, false, false, false] rfl rfl (any_of HT_.out (by kernel_rfl)) (fun _ _ _ h => h) (Or.inl ⟨by rfl, ?_⟩) ?_ ?_
  rotate_left
  · intro w'
    go_simp
    with_reducible rfl
  rotate_left
  · simp only [Act.put, List.setIfInBounds_toArray, List.set_cons_zero, List.set_cons_succ, i64_w, i32_w]
    rfl
  refine inv_at [1, 3, 5, 6, 7, 8, 9, 10, 11] (fun a0_ b a w' => a = putSel a0_ b [(1, 35, .int .i64 kc), (3, 37, .slice A7 n7 m7), (5, 39, .int .i64 kh), (6, 40, .pointer (some ⟨w.heap.size + 1 + 1, 1, none⟩)), (8, 41, .pointer (some ⟨w.heap.size + 1 + 1, 7, none⟩)), (10, 42, .pointer (some ⟨w.heap.size + 1 + 1, 3, none⟩))] ∧ (Below w.heap.size w w') ∧ (w'.heap[w.heap.size]? = some (.cells #[.int .i64 6, .int .i64 kc, .int .i64 kq, .int .i64 kh, .int .i64 ka, .int .i64 kt, .slice A6 n6 m6, .slice A7 n7 m7, .slice A8 n8 m8] 30 (0, 0))) ∧ (w'.heap[w.heap.size + 1]? = some (.cells #[.int .i64 0, .int .i64 0, .int .i64 0, .int .i64 0, .int .i64 0, .int .i64 0, .slice none 0 0, .slice none 0 0, .slice none 0 0] 30 (0, 0))) ∧ (b 7 = false → w'.heap[w.heap.size + 1 + 1]? = some (.cells #[.int .i64 6, .int .i64 0, .int .i64 0, .int .i64 0, .int .i64 0, .int .i64 0, .slice none 0 0, .slice none 0 0, .slice none 0 0] 30 (0, 0))) ∧ (b 7 = true → b 9 = false → w'.heap[w.heap.size + 1 + 1]? = some (.cells #[.int .i64 6, .int .i64 kc, .int .i64 0, .int .i64 0, .int .i64 0, .int .i64 0, .slice none 0 0, .slice none 0 0, .slice none 0 0] 30 (0, 0))) ∧ (b 9 = true → b 11 = false → w'.heap[w.heap.size + 1 + 1]? = some (.cells #[.int .i64 6, .int .i64 kc, .int .i64 0, .int .i64 0, .int .i64 0, .int .i64 0, .slice none 0 0, .slice A7 n7 m7, .slice none 0 0] 30 (0, 0))) ∧ (b 11 = true → w'.heap[w.heap.size + 1 + 1]? = some (.cells #[.int .i64 6, .int .i64 kc, .int .i64 0, .int .i64 kh, .int .i64 0, .int .i64 0, .slice none 0 0, .slice A7 n7 m7, .slice none 0 0] 30 (0, 0)))) HT_.out HW_.out (by kernel_rfl) (by kernel_rfl) ?_ ?_ ?_
  · exact ⟨by simp only [putSel, Bool.false_eq_true, if_false], below_drew HW.out, HG.out, HR.out, fun _ => H0.out, fun h_ => absurd h_ (by decide), fun h_ => absurd h_ (by decide), fun h_ => absurd h_ (by decide)⟩
  · skip
    clear H0 HG HR HW
    refine steps_cons ?_ ?_
    · rintro b a w' ⟨ha, Q_HW, Q_HG, Q_HR, Q_H0, Q_H1, Q_H2, Q_H3⟩ hb_ hon hoff
      refine ⟨_, rfl, fun K hK => ?_⟩
      have e34 : a.tmps[34]? = some (.pointer (some ⟨w.heap.size, 1, none⟩)) := by rw [ha]; exact (putSel_off rfl).trans rfl
      replace ha := Aside0.mk ha
      have HW := Aside0.mk Q_HW
      have HG := Aside0.mk Q_HG
      have HR := Aside0.mk Q_HR
      have H0 := Aside0.mk (Q_H0 (hoff 7 (by kernel_rfl)))
      have q0 := (blk_cell HG.out 1).trans (rfl : _ = some (Value.int .i64 kc))
      refine value_ (w1 := w') (v := .int .i64 kc) (by rfl) rfl ?_ ?_
      · go_simp
        (try simp only [i64_w])
        try rfl
      refine hK.out _ _ ⟨(by rw [ha.out]; exact putSel_upk 0 hb_ rfl rfl rfl), Q_HW, Q_HG, Q_HR, Q_H0, fun h0_ _ => absurd ((hoff 7 (by kernel_rfl)).symm.trans h0_) (by decide), fun h0_ _ => absurd ((hoff 9 (by kernel_rfl)).symm.trans h0_) (by decide), fun h0_ => absurd ((hoff 11 (by kernel_rfl)).symm.trans h0_) (by decide)⟩
    refine steps_cons ?_ ?_
    · rintro b a w' ⟨ha, Q_HW, Q_HG, Q_HR, Q_H0, Q_H1, Q_H2, Q_H3⟩ hb_ hon hoff
      refine ⟨_, rfl, fun K hK => ?_⟩
      have e36 : a.tmps[36]? = some (.pointer (some ⟨w.heap.size, 7, none⟩)) := by rw [ha]; exact (putSel_off rfl).trans rfl
      replace ha := Aside0.mk ha
      have HW := Aside0.mk Q_HW
      have HG := Aside0.mk Q_HG
      have HR := Aside0.mk Q_HR
      have q0 := (blk_cell HG.out 7).trans (rfl : _ = some (Value.slice A7 n7 m7))
      refine value_ (w1 := w') (v := .slice A7 n7 m7) (by rfl) rfl ?_ ?_
      · go_simp
        (try simp only [i64_w])
        try rfl
      refine hK.out _ _ ⟨(by rw [ha.out]; exact putSel_upk 1 hb_ rfl rfl rfl), Q_HW, Q_HG, Q_HR, Q_H0, Q_H1, fun h0_ _ => absurd ((hoff 9 (by kernel_rfl)).symm.trans h0_) (by decide), fun h0_ => absurd ((hoff 11 (by kernel_rfl)).symm.trans h0_) (by decide)⟩
    refine steps_cons ?_ ?_
    · rintro b a w' ⟨ha, Q_HW, Q_HG, Q_HR, Q_H0, Q_H1, Q_H2, Q_H3⟩ hb_ hon hoff
      refine ⟨_, rfl, fun K hK => ?_⟩
      have e38 : a.tmps[38]? = some (.pointer (some ⟨w.heap.size, 3, none⟩)) := by rw [ha]; exact (putSel_off rfl).trans rfl
      replace ha := Aside0.mk ha
      have HW := Aside0.mk Q_HW
      have HG := Aside0.mk Q_HG
      have HR := Aside0.mk Q_HR
      have q0 := (blk_cell HG.out 3).trans (rfl : _ = some (Value.int .i64 kh))
      refine value_ (w1 := w') (v := .int .i64 kh) (by rfl) rfl ?_ ?_
      · go_simp
        (try simp only [i64_w])
        try rfl
      refine hK.out _ _ ⟨(by rw [ha.out]; exact putSel_upk 2 hb_ rfl rfl rfl), Q_HW, Q_HG, Q_HR, Q_H0, Q_H1, Q_H2, fun h0_ => absurd ((hoff 11 (by kernel_rfl)).symm.trans h0_) (by decide)⟩
    refine steps_cons ?_ ?_
    · rintro b a w' ⟨ha, Q_HW, Q_HG, Q_HR, Q_H0, Q_H1, Q_H2, Q_H3⟩ hb_ hon hoff
      refine ⟨_, rfl, fun K hK => ?_⟩
      have e3 : a.tmps[3]? = some (.pointer (some ⟨w.heap.size + 1 + 1, 0, none⟩)) := by rw [ha]; exact (putSel_off rfl).trans rfl
      replace ha := Aside0.mk ha
      have HW := Aside0.mk Q_HW
      have HG := Aside0.mk Q_HG
      have HR := Aside0.mk Q_HR
      have H0 := Aside0.mk (Q_H0 (hoff 7 (by kernel_rfl)))
      refine value_ (w1 := w') (v := .pointer (some ⟨w.heap.size + 1 + 1, 1, none⟩)) (by rfl) rfl ?_ ?_
      · go_simp
        (try simp only [i64_w])
        try rfl
      refine hK.out _ _ ⟨(by rw [ha.out]; exact putSel_upk 3 hb_ rfl rfl rfl), Q_HW, Q_HG, Q_HR, Q_H0, fun h0_ _ => absurd ((hoff 7 (by kernel_rfl)).symm.trans h0_) (by decide), fun h0_ _ => absurd ((hoff 9 (by kernel_rfl)).symm.trans h0_) (by decide), fun h0_ => absurd ((hoff 11 (by kernel_rfl)).symm.trans h0_) (by decide)⟩
    refine steps_cons ?_ ?_
    · rintro b a w' ⟨ha, Q_HW, Q_HG, Q_HR, Q_H0, Q_H1, Q_H2, Q_H3⟩ hb_ hon hoff
      refine ⟨_, rfl, fun K hK => ?_⟩
      have e40 : a.tmps[40]? = some (.pointer (some ⟨w.heap.size + 1 + 1, 1, none⟩)) := by rw [ha]; exact putSel_on (e := (6, 40, .pointer (some ⟨w.heap.size + 1 + 1, 1, none⟩))) 3 rfl rfl (hon 6 (by kernel_rfl)) rfl
      have e35 : a.tmps[35]? = some (.int .i64 kc) := by rw [ha]; exact putSel_on (e := (1, 35, .int .i64 kc)) 0 rfl rfl (hon 1 (by kernel_rfl)) rfl
      replace ha := Aside0.mk ha
      have HW := Aside0.mk Q_HW
      have HG := Aside0.mk Q_HG
      have HR := Aside0.mk Q_HR
      have H0 := Aside0.mk (Q_H0 hb_)
      have z0 := (blk_cell H0.out 1).trans (rfl : _ = some (Value.int .i64 0))
      have f0 := blk_frozen H0.out 1
      have hl := blk_lt H0.out
      refine skip_ (w1 := w'.setCell ⟨w.heap.size + 1 + 1, 1, none⟩ (.int .i64 kc)) (by rfl) rfl (by go_simp) ?_
      refine hK.out _ _ ⟨(by rw [ha.out]; exact putSel_none (v := undef) rfl), below_set HW.out (by show w.heap.size ≤ w.heap.size + 1 + 1; omega), blk_far (p := ⟨w.heap.size + 1 + 1, 1, none⟩) HG.out (by show w.heap.size ≠ w.heap.size + 1 + 1; omega) _, blk_far (p := ⟨w.heap.size + 1 + 1, 1, none⟩) HR.out (by show w.heap.size + 1 ≠ w.heap.size + 1 + 1; omega) _, fun h0_ => absurd ((up_self b 7).symm.trans h0_) (by decide), fun _ _ => blk_put H0.out 1 _ rfl, fun h0_ _ => absurd ((hoff 9 (by kernel_rfl)).symm.trans h0_) (by decide), fun h0_ => absurd ((hoff 11 (by kernel_rfl)).symm.trans h0_) (by decide)⟩
    refine steps_cons ?_ ?_
    · rintro b a w' ⟨ha, Q_HW, Q_HG, Q_HR, Q_H0, Q_H1, Q_H2, Q_H3⟩ hb_ hon hoff
      refine ⟨_, rfl, fun K hK => ?_⟩
      have e3 : a.tmps[3]? = some (.pointer (some ⟨w.heap.size + 1 + 1, 0, none⟩)) := by rw [ha]; exact (putSel_off rfl).trans rfl
      replace ha := Aside0.mk ha
      have HW := Aside0.mk Q_HW
      have HG := Aside0.mk Q_HG
      have HR := Aside0.mk Q_HR
      have H1 := Aside0.mk (Q_H1 (hon 7 (by kernel_rfl)) (hoff 9 (by kernel_rfl)))
      refine value_ (w1 := w') (v := .pointer (some ⟨w.heap.size + 1 + 1, 7, none⟩)) (by rfl) rfl ?_ ?_
      · go_simp
        (try simp only [i64_w])
        try rfl
      refine hK.out _ _ ⟨(by rw [ha.out]; exact putSel_upk 4 hb_ rfl rfl rfl), Q_HW, Q_HG, Q_HR, fun h0_ => absurd ((hon 7 (by kernel_rfl)).symm.trans h0_) (by decide), Q_H1, fun h0_ _ => absurd ((hoff 9 (by kernel_rfl)).symm.trans h0_) (by decide), fun h0_ => absurd ((hoff 11 (by kernel_rfl)).symm.trans h0_) (by decide)⟩
    refine steps_cons ?_ ?_
    · rintro b a w' ⟨ha, Q_HW, Q_HG, Q_HR, Q_H0, Q_H1, Q_H2, Q_H3⟩ hb_ hon hoff
      refine ⟨_, rfl, fun K hK => ?_⟩
      have e41 : a.tmps[41]? = some (.pointer (some ⟨w.heap.size + 1 + 1, 7, none⟩)) := by rw [ha]; exact putSel_on (e := (8, 41, .pointer (some ⟨w.heap.size + 1 + 1, 7, none⟩))) 4 rfl rfl (hon 8 (by kernel_rfl)) rfl
      have e37 : a.tmps[37]? = some (.slice A7 n7 m7) := by rw [ha]; exact putSel_on (e := (3, 37, .slice A7 n7 m7)) 1 rfl rfl (hon 3 (by kernel_rfl)) rfl
      replace ha := Aside0.mk ha
      have HW := Aside0.mk Q_HW
      have HG := Aside0.mk Q_HG
      have HR := Aside0.mk Q_HR
      have H1 := Aside0.mk (Q_H1 (hon 7 (by kernel_rfl)) hb_)
      have z0 := (blk_cell H1.out 7).trans (rfl : _ = some (Value.slice none 0 0))
      have f0 := blk_frozen H1.out 7
      have hl := blk_lt H1.out
      refine skip_ (w1 := w'.setCell ⟨w.heap.size + 1 + 1, 7, none⟩ (.slice A7 n7 m7)) (by rfl) rfl (by go_simp) ?_
      refine hK.out _ _ ⟨(by rw [ha.out]; exact putSel_none (v := undef) rfl), below_set HW.out (by show w.heap.size ≤ w.heap.size + 1 + 1; omega), blk_far (p := ⟨w.heap.size + 1 + 1, 7, none⟩) HG.out (by show w.heap.size ≠ w.heap.size + 1 + 1; omega) _, blk_far (p := ⟨w.heap.size + 1 + 1, 7, none⟩) HR.out (by show w.heap.size + 1 ≠ w.heap.size + 1 + 1; omega) _, fun h0_ => absurd ((hon 7 (by kernel_rfl)).symm.trans h0_) (by decide), fun _ h1_ => absurd ((up_self b 9).symm.trans h1_) (by decide), fun _ _ => blk_put H1.out 7 _ rfl, fun h0_ => absurd ((hoff 11 (by kernel_rfl)).symm.trans h0_) (by decide)⟩
    refine steps_cons ?_ ?_
    · rintro b a w' ⟨ha, Q_HW, Q_HG, Q_HR, Q_H0, Q_H1, Q_H2, Q_H3⟩ hb_ hon hoff
      refine ⟨_, rfl, fun K hK => ?_⟩
      have e3 : a.tmps[3]? = some (.pointer (some ⟨w.heap.size + 1 + 1, 0, none⟩)) := by rw [ha]; exact (putSel_off rfl).trans rfl
      replace ha := Aside0.mk ha
      have HW := Aside0.mk Q_HW
      have HG := Aside0.mk Q_HG
      have HR := Aside0.mk Q_HR
      have H2 := Aside0.mk (Q_H2 (hon 9 (by kernel_rfl)) (hoff 11 (by kernel_rfl)))
      refine value_ (w1 := w') (v := .pointer (some ⟨w.heap.size + 1 + 1, 3, none⟩)) (by rfl) rfl ?_ ?_
      · go_simp
        (try simp only [i64_w])
        try rfl
      refine hK.out _ _ ⟨(by rw [ha.out]; exact putSel_upk 5 hb_ rfl rfl rfl), Q_HW, Q_HG, Q_HR, fun h0_ => absurd ((hon 7 (by kernel_rfl)).symm.trans h0_) (by decide), fun _ h1_ => absurd ((hon 9 (by kernel_rfl)).symm.trans h1_) (by decide), Q_H2, fun h0_ => absurd ((hoff 11 (by kernel_rfl)).symm.trans h0_) (by decide)⟩
    refine steps_cons ?_ ?_
    · rintro b a w' ⟨ha, Q_HW, Q_HG, Q_HR, Q_H0, Q_H1, Q_H2, Q_H3⟩ hb_ hon hoff
      refine ⟨_, rfl, fun K hK => ?_⟩
      have e42 : a.tmps[42]? = some (.pointer (some ⟨w.heap.size + 1 + 1, 3, none⟩)) := by rw [ha]; exact putSel_on (e := (10, 42, .pointer (some ⟨w.heap.size + 1 + 1, 3, none⟩))) 5 rfl rfl (hon 10 (by kernel_rfl)) rfl
      have e39 : a.tmps[39]? = some (.int .i64 kh) := by rw [ha]; exact putSel_on (e := (5, 39, .int .i64 kh)) 2 rfl rfl (hon 5 (by kernel_rfl)) rfl
      replace ha := Aside0.mk ha
      have HW := Aside0.mk Q_HW
      have HG := Aside0.mk Q_HG
      have HR := Aside0.mk Q_HR
      have H2 := Aside0.mk (Q_H2 (hon 9 (by kernel_rfl)) hb_)
      have z0 := (blk_cell H2.out 3).trans (rfl : _ = some (Value.int .i64 0))
      have f0 := blk_frozen H2.out 3
      have hl := blk_lt H2.out
      refine skip_ (w1 := w'.setCell ⟨w.heap.size + 1 + 1, 3, none⟩ (.int .i64 kh)) (by rfl) rfl (by go_simp) ?_
      refine hK.out _ _ ⟨(by rw [ha.out]; exact putSel_none (v := undef) rfl), below_set HW.out (by show w.heap.size ≤ w.heap.size + 1 + 1; omega), blk_far (p := ⟨w.heap.size + 1 + 1, 3, none⟩) HG.out (by show w.heap.size ≠ w.heap.size + 1 + 1; omega) _, blk_far (p := ⟨w.heap.size + 1 + 1, 3, none⟩) HR.out (by show w.heap.size + 1 ≠ w.heap.size + 1 + 1; omega) _, fun h0_ => absurd ((hon 7 (by kernel_rfl)).symm.trans h0_) (by decide), fun _ h1_ => absurd ((hon 9 (by kernel_rfl)).symm.trans h1_) (by decide), fun _ h1_ => absurd ((up_self b 11).symm.trans h1_) (by decide), fun _ => blk_put H2.out 3 _ rfl⟩
    exact steps_nil
  · rintro b a w' hall ⟨ha, Q_HW, Q_HG, Q_HR, Q_H0, Q_H1, Q_H2, Q_H3⟩
    clear H0 HG HR HW
    have hb1_ := hall 1 (by kernel_rfl)
    have hb3_ := hall 3 (by kernel_rfl)
    have hb5_ := hall 5 (by kernel_rfl)
    have hb6_ := hall 6 (by kernel_rfl)
    have hb7_ := hall 7 (by kernel_rfl)
    have hb8_ := hall 8 (by kernel_rfl)
    have hb9_ := hall 9 (by kernel_rfl)
    have hb10_ := hall 10 (by kernel_rfl)
    have hb11_ := hall 11 (by kernel_rfl)
    subst ha
    simp only [putSel, hb1_, hb3_, hb5_, hb6_, hb7_, hb8_, hb9_, hb10_, hb11_, if_true, Act.put, List.setIfInBounds_toArray, List.set_cons_zero, List.set_cons_succ]
    have HW := Aside0.mk Q_HW
    clear Q_HW
    have HG := Aside0.mk Q_HG
    clear Q_HG
    have HR := Aside0.mk Q_HR
    clear Q_HR
    clear Q_H0
    clear Q_H1
    clear Q_H2
    have H3 := Aside0.mk (Q_H3 hb11_)
    clear Q_H3
    clear hall hb1_ hb3_ hb5_ hb6_ hb7_ hb8_ hb9_ hb10_ hb11_
    have hl4 := blk_lt H3.out
    have q0 := (blk_cell H3.out 0).trans (rfl : _ = some (Value.int .i64 6))
    have q1 := (blk_cell H3.out 1).trans (rfl : _ = some (Value.int .i64 kc))
    have q2 := (blk_cell H3.out 2).trans (rfl : _ = some (Value.int .i64 0))
    have q3 := (blk_cell H3.out 3).trans (rfl : _ = some (Value.int .i64 kh))
    have q4 := (blk_cell H3.out 4).trans (rfl : _ = some (Value.int .i64 0))
    have q5 := (blk_cell H3.out 5).trans (rfl : _ = some (Value.int .i64 0))
    have q6 := (blk_cell H3.out 6).trans (rfl : _ = some (Value.slice none 0 0))
    have q7 := (blk_cell H3.out 7).trans (rfl : _ = some (Value.slice A7 n7 m7))
    have q8 := (blk_cell H3.out 8).trans (rfl : _ = some (Value.slice none 0 0))
    have z0 := (blk_cell HR.out 0).trans (rfl : _ = some (Value.int .i64 0))
    have z1 := (blk_cell HR.out 1).trans (rfl : _ = some (Value.int .i64 0))
    have z2 := (blk_cell HR.out 2).trans (rfl : _ = some (Value.int .i64 0))
    have z3 := (blk_cell HR.out 3).trans (rfl : _ = some (Value.int .i64 0))
    have z4 := (blk_cell HR.out 4).trans (rfl : _ = some (Value.int .i64 0))
    have z5 := (blk_cell HR.out 5).trans (rfl : _ = some (Value.int .i64 0))
    have z6 := (blk_cell HR.out 6).trans (rfl : _ = some (Value.slice none 0 0))
    have z7 := (blk_cell HR.out 7).trans (rfl : _ = some (Value.slice none 0 0))
    have z8 := (blk_cell HR.out 8).trans (rfl : _ = some (Value.slice none 0 0))
    have f0 := blk_frozen HR.out 0
    have f1 := blk_frozen HR.out 1
    have f2 := blk_frozen HR.out 2
    have f3 := blk_frozen HR.out 3
    have f4 := blk_frozen HR.out 4
    have f5 := blk_frozen HR.out 5
    have f6 := blk_frozen HR.out 6
    have f7 := blk_frozen HR.out 7
    have f8 := blk_frozen HR.out 8
    have hl2 := blk_lt HR.out
    have HF := (blk_put (blk_put (blk_put (blk_put (blk_put (blk_put (blk_put (blk_put (blk_put HR.out 0 (.int .i64 6) rfl) 1 (.int .i64 kc) rfl) 2 (.int .i64 0) rfl) 3 (.int .i64 kh) rfl) 4 (.int .i64 0) rfl) 5 (.int .i64 0) rfl) 6 (.slice none 0 0) rfl) 7 (.slice A7 n7 m7) rfl) 8 (.slice none 0 0) rfl)
    have HQ := Aside0.mk (And.intro (blk_cell HF 0) (And.intro (blk_cell HF 1) (And.intro (blk_cell HF 2) (And.intro (blk_cell HF 3) (And.intro (blk_cell HF 4) (And.intro (blk_cell HF 5) (And.intro (blk_cell HF 6) (And.intro (blk_cell HF 7) (blk_cell HF 8)))))))))
    have HBf : Aside0 (Below w.heap.size w (((((((((w'.setCell ⟨w.heap.size + 1, 0, none⟩ (Value.int .i64 6)).setCell ⟨w.heap.size + 1, 1, none⟩ (Value.int .i64 kc)).setCell ⟨w.heap.size + 1, 2, none⟩ (Value.int .i64 0)).setCell ⟨w.heap.size + 1, 3, none⟩ (Value.int .i64 kh)).setCell ⟨w.heap.size + 1, 4, none⟩ (Value.int .i64 0)).setCell ⟨w.heap.size + 1, 5, none⟩ (Value.int .i64 0)).setCell ⟨w.heap.size + 1, 6, none⟩ (Value.slice none 0 0)).setCell ⟨w.heap.size + 1, 7, none⟩ (Value.slice A7 n7 m7)).setCell ⟨w.heap.size + 1, 8, none⟩ (Value.slice none 0 0))) := ⟨(below_set (below_set (below_set (below_set (below_set (below_set (below_set (below_set (below_set HW.out (Nat.le_succ _)) (Nat.le_succ _)) (Nat.le_succ _)) (Nat.le_succ _)) (Nat.le_succ _)) (Nat.le_succ _)) (Nat.le_succ _)) (Nat.le_succ _)) (Nat.le_succ _))⟩
    clear HF HG
    go_wp2
    generalize (((((((((w'.setCell ⟨w.heap.size + 1, 0, none⟩ (Value.int .i64 6)).setCell ⟨w.heap.size + 1, 1, none⟩ (Value.int .i64 kc)).setCell ⟨w.heap.size + 1, 2, none⟩ (Value.int .i64 0)).setCell ⟨w.heap.size + 1, 3, none⟩ (Value.int .i64 kh)).setCell ⟨w.heap.size + 1, 4, none⟩ (Value.int .i64 0)).setCell ⟨w.heap.size + 1, 5, none⟩ (Value.int .i64 0)).setCell ⟨w.heap.size + 1, 6, none⟩ (Value.slice none 0 0)).setCell ⟨w.heap.size + 1, 7, none⟩ (Value.slice A7 n7 m7)).setCell ⟨w.heap.size + 1, 8, none⟩ (Value.slice none 0 0)) = w9 at HQ HBf ⊢
    clear HW HR H3
    clear q0 z0 f0 q1 z1 f1 q2 z2 f2 q3 z3 f3 q4 z4 f4 q5 z5 f5 q6 z6 f6 q7 z7 f7 q8 z8 f8
    obtain ⟨q0, q1, q2, q3, q4, q5, q6, q7, q8⟩ := HQ.out
    refine bodyPost_ret (v := opV 6 kc 0 kh 0 0 none 0 0 A7 n7 m7 none 0 0) (by simp [results, Tryd.results18, go_sem, q0, q1, q2, q3, q4, q5, q6, q7, q8]) rfl ⟨rfl, HBf.out⟩
set_option maxRecDepth 100000 in
set_option maxHeartbeats 4000000 in
theorem asked_none (k : Int) (h9 : (k == 9) = false) (h8 : (k == 8) = false) (h1 : (k == 1) = false) (h2 : (k == 2) = false) (h4 : (k == 4) = false) (h3 : (k == 3) = false) (h5 : (k == 5) = false) (h7 : (k == 7) = false) (h6 : (k == 6) = false) (kc kq kh ka kt : Int) (A6 : Option Addr) (n6 m6 : Nat) (A7 : Option Addr) (n7 m7 : Nat) (A8 : Option Addr) (n8 m8 : Nat) (w : World) :
    Calls Tryd.prog 18 #[opV k kc kq kh ka kt A6 n6 m6 A7 n7 m7 A8 n8 m8] w fun e w' => e = .returned (opV k 0 0 0 0 0 none 0 0 none 0 0 none 0 0) ∧ Below w.heap.size w w' := by
  go_enter Tryd.func18, Tryd.ntmps18
  go_wp2
  refine bodyPost_ret (v := opV k 0 0 0 0 0 none 0 0 none 0 0 none 0 0) (by simp [results, Tryd.results18, go_sem]) rfl ⟨rfl, ?_⟩
  repeat (first | exact Below.refl _ _ | apply below_alloc)
end Go.Proofs.YtbplemhjhpfkgaaDoor.Cd

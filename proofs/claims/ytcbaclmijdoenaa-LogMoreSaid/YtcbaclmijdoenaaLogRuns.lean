/-
  LogRuns: chapter 17's runs.
-/
import Derived.Test.YtcbaclmijdoenaaLogFns
namespace Go.Proofs.Ytcbaclmijdoenaa.Lg
open Go.RowKit Go.ChangeShapes Go.Proofs.YtcbaclmijdoenaaW.PrintWords Go.Proofs.YtcbaclmijdoenaaW.PrintLast Go.Proofs.YtcbaclmijdoenaaW.PrintMore
set_option linter.unusedVariables false
set_option linter.unusedSimpArgs false

/-- Four numbers stored into the block g. -/
def set4 (w : World) (g : Nat) (a b c d : Int) : World := (((w.setCell ⟨g, 0, none⟩ (.int .i64 a)).setCell ⟨g, 1, none⟩ (.int .i64 b)).setCell ⟨g, 2, none⟩ (.int .i64 c)).setCell ⟨g, 3, none⟩ (.int .i64 d)
theorem blk4 {w : World} {g : Nat} {t : TypeId} {x y z u a b c d : Int} (h : w.heap[g]? = some (.cells #[.int .i64 x, .int .i64 y, .int .i64 z, .int .i64 u] t (0, 0))) : (set4 w g a b c d).heap[g]? = some (.cells #[.int .i64 a, .int .i64 b, .int .i64 c, .int .i64 d] t (0, 0)) := by
  unfold set4
  exact blk_set (blk_set (blk_set (blk_set h 0 _) 1 _) 2 _) 3 _
theorem far4 {w : World} {g g' : Nat} {t : TypeId} {cs : Array Value} {a b c d : Int} (h : w.heap[g]? = some (.cells cs t (0, 0))) (hne : g ≠ g') : (set4 w g' a b c d).heap[g]? = some (.cells cs t (0, 0)) := by
  unfold set4
  exact blk_far (p := ⟨g', 3, none⟩) (blk_far (p := ⟨g', 2, none⟩) (blk_far (p := ⟨g', 1, none⟩) (blk_far (p := ⟨g', 0, none⟩) h hne _) hne _) hne _) hne _
theorem below4 {w w' : World} {g : Nat} {a b c d : Int} (h : Below w.heap.size w w') (hg : w.heap.size ≤ g) : Below w.heap.size w (set4 w' g a b c d) := by
  unfold set4
  exact below_set (below_set (below_set (below_set h hg) hg) hg) hg
theorem lt4 {w : World} {g k : Nat} {a b c d : Int} (h : k < w.heap.size) : k < (set4 w g a b c d).heap.size := by
  unfold set4; simpa using h
theorem lt_alloc {w : World} {k : Nat} (h : k < w.heap.size) (o : Obj) : k < (w.alloc o).heap.size := by simp; omega
def lrReg.T2 : Bool × List (List Nat × List Nat) := (true, [([], []), ([0], [0]), ([], []), ([2], [2]), ([], []), ([4], [4]), ([], []), ([], []), ([], []), ([6, 1, 0, 1, 6, 7, 8], [1, 6]), ([7, 3, 9, 0, 1, 2, 3, 6, 7, 8, 9], [3, 7]), ([8, 5, 10, 0, 1, 2, 3, 4, 5, 6, 7, 8, 9, 10], [5, 8])])
def lrReg.B2 : List Nat := [0, 1, 0, 4, 0, 16, 0, 0, 0, 451, 975, 2047]
theorem lrReg.tab2 : rtab .any (opsOf Try.f3 2) = lrReg.T2 := by kernel_rfl
theorem lrReg.bits2 : waitsOk lrReg.T2.2 lrReg.B2 = true := by kernel_rfl

theorem flat_get {α : Type} {n : Nat} {enc : α → List Value} (hl : ∀ x, (enc x).length = n) {u : Value} {i : Nat} : ∀ (xs : List α) (j : Nat) (p : α), xs[j]? = some p → (enc p)[i]? = some u → (xs.flatMap enc)[j * n + i]? = some u
  | [], j, p, h, _ => by simp at h
  | x :: r, 0, p, h, hu => by
    simp only [List.getElem?_cons_zero, Option.some.injEq] at h
    subst h
    have hi := (List.getElem?_eq_some_iff.1 hu).1
    rw [List.flatMap_cons, Nat.zero_mul, Nat.zero_add, List.getElem?_append_left hi]
    exact hu
  | x :: r, j + 1, p, h, hu => by
    rw [List.flatMap_cons, List.getElem?_append_right (by rw [hl, Nat.succ_mul]; omega), hl, show (j + 1) * n + i - n = j * n + i by rw [Nat.succ_mul]; omega]
    exact flat_get hl r j p (by simpa using h) hu
theorem C_flat_block {α : Type} {n : Nat} {enc : α → List Value} {hl : ∀ x, (enc x).length = n} {h1 : ∀ x u, u ∈ enc x → u.oneCell' = true} {w : World} {g : Nat} {t : TypeId} {xs : List α}
    (h : w.heap[g]? = some (.cells (xs.flatMap enc).toArray t (0, 0))) (hm : xs.length ≤ 9223372036854775807) : Kd.C (flat n enc hl h1) w (some ⟨g, 0, none⟩) xs.length xs :=
  ⟨rfl, hm, fun _ => ⟨_, rfl, fun j p hj => ⟨enc p, hl p, rfl, fun i u hu => by
    rw [add_plain, blk_cell h]
    simpa [flat] using flat_get hl xs j p hj hu⟩⟩⟩
theorem C_two (x y : Cr) (w : World) : Kd.C kCr (w.alloc (.cells #[.int .i64 x.1, .int .i64 x.2.1, .int .i64 x.2.2.1, .int .i64 x.2.2.2, .int .i64 y.1, .int .i64 y.2.1, .int .i64 y.2.2.1, .int .i64 y.2.2.2] 25)) (some ⟨w.heap.size, 0, none⟩) 2 [x, y] := C_flat_block (xs := [x, y]) (blk_new w _) (by simp)
theorem C_three (x y z : Cr) (w : World) : Kd.C kCr (w.alloc (.cells #[.int .i64 x.1, .int .i64 x.2.1, .int .i64 x.2.2.1, .int .i64 x.2.2.2, .int .i64 y.1, .int .i64 y.2.1, .int .i64 y.2.2.1, .int .i64 y.2.2.2, .int .i64 z.1, .int .i64 z.2.1, .int .i64 z.2.2.1, .int .i64 z.2.2.2] 25)) (some ⟨w.heap.size, 0, none⟩) 3 [x, y, z] := C_flat_block (xs := [x, y, z]) (blk_new w _) (by simp)
theorem inI64 {n : Int} (h1 : -9223372036854775808 ≤ n) (h2 : n ≤ 9223372036854775807) : InI64 n := WalkArith.wf_i64 (by omega)
theorem crOk {a b c d : Int} (h : -9223372036854775808 ≤ a ∧ a ≤ 9223372036854775807 ∧ -9223372036854775808 ≤ b ∧ b ≤ 9223372036854775807 ∧ -9223372036854775808 ≤ c ∧ c ≤ 9223372036854775807 ∧ -9223372036854775808 ≤ d ∧ d ≤ 9223372036854775807) : CrOk (a, b, c, d) :=
  ⟨inI64 h.1 h.2.1, inI64 h.2.2.1 h.2.2.2.1, inI64 h.2.2.2.2.1 h.2.2.2.2.2.1, inI64 h.2.2.2.2.2.2.1 h.2.2.2.2.2.2.2⟩
theorem runsOk (xs : List Cr) (h : (xs.all fun x => [(0, 1, 1, 0), (1, 2, 1, 0), (1, 0, 1, 0)].contains x) = true) : ∀ x ∈ xs, CrOk x := by
  intro x hx
  have h1 := List.all_eq_true.1 h x hx
  simp only [List.contains_cons, List.contains_nil, Bool.or_false, Bool.or_eq_true, beq_iff_eq] at h1
  rcases h1 with rfl | rfl | rfl <;> exact crOk (by omega)
theorem runsOk0 : InI64 0 := inI64 (by omega) (by omega)

set_option maxHeartbeats 1600000 in
theorem runs_calls (w : World) : Calls Try.prog 3 #[] w fun e w' => e = .returned (.bool true) ∧ Below w.heap.size w w' := by
  have HX := Aside0.mk (blk_new w (.cells #[.int .i64 1, .int .i64 0] 23))
  have HB := Aside0.mk (below_alloc (Below.refl w.heap.size w) (.cells #[.int .i64 1, .int .i64 0] 23))
  go_enter Try.func3, Try.ntmps3
  go_upto_region 2 with fail
  go_cut [2, 3, 4] (fun p q r wc => ∃ P Q R : Nat, p = .pointer (some ⟨P, 0, none⟩) ∧ q = .pointer (some ⟨Q, 0, none⟩) ∧ r = .pointer (some ⟨R, 0, none⟩) ∧
    Aside0 (wc.heap[P]? = some (.cells #[.int .i64 0, .int .i64 1, .int .i64 1, .int .i64 0] 25 (0, 0))) ∧ Aside0 (wc.heap[Q]? = some (.cells #[.int .i64 1, .int .i64 2, .int .i64 1, .int .i64 0] 25 (0, 0))) ∧ Aside0 (wc.heap[R]? = some (.cells #[.int .i64 1, .int .i64 0, .int .i64 1, .int .i64 0] 25 (0, 0))) ∧
    Aside0 (wc.heap[w.heap.size]? = some (.cells #[.int .i64 1, .int .i64 0] 23 (0, 0))) ∧ Aside0 (Below w.heap.size w wc))
  case first =>
    refine start_ (n := 12) (S := fun w' => True) (ds := []) #[false, false, false, false, false, false, false, false, false, false, false, false] (by kernel_rfl) rfl rfl trivial (fun hHeld => ?_)
    refine with_tabW lrReg.tab2 lrReg.bits2 (fun HT_ HW_ => ?_)
    refine inv_at [0, 1, 2, 3, 4, 5, 6, 7, 8, 9, 10, 11] (fun a0_ b a w' => ∃ (p0_ : Nat) (p1_ : Nat) (p2_ : Nat) (m6_ : Value) (m7_ : Value) (m8_ : Value), a = putSel a0_ b [(0, 6, .agg #[.int .i64 1, .int .i64 0]), (1, 7, .agg #[.int .i64 0, .int .i64 1, .int .i64 1, .int .i64 0]), (2, 8, .agg #[.int .i64 1, .int .i64 0]), (3, 9, .agg #[.int .i64 1, .int .i64 2, .int .i64 1, .int .i64 0]), (4, 10, .agg #[.int .i64 1, .int .i64 0]), (5, 11, .agg #[.int .i64 1, .int .i64 0, .int .i64 1, .int .i64 0]), (6, 2, m6_), (7, 3, m7_), (8, 4, m8_)] ∧ (w'.heap[w.heap.size]? = some (.cells #[.int .i64 1, .int .i64 0] 23 (0, 0))) ∧ (Below w.heap.size w w') ∧ (b 6 = true → w.heap.size < p0_) ∧ (b 6 = true → p0_ < w'.heap.size) ∧ (b 6 = true → b 9 = false → w'.heap[p0_]? = some (.cells #[.int .i64 0, .int .i64 0, .int .i64 0, .int .i64 0] 25 (0, 0))) ∧ (b 9 = true → w'.heap[p0_]? = some (.cells #[.int .i64 0, .int .i64 1, .int .i64 1, .int .i64 0] 25 (0, 0))) ∧ (b 7 = true → w.heap.size < p1_) ∧ (b 7 = true → p1_ < w'.heap.size) ∧ (b 7 = true → b 10 = false → w'.heap[p1_]? = some (.cells #[.int .i64 0, .int .i64 0, .int .i64 0, .int .i64 0] 25 (0, 0))) ∧ (b 10 = true → w'.heap[p1_]? = some (.cells #[.int .i64 1, .int .i64 2, .int .i64 1, .int .i64 0] 25 (0, 0))) ∧ (b 8 = true → w.heap.size < p2_) ∧ (b 8 = true → p2_ < w'.heap.size) ∧ (b 8 = true → b 11 = false → w'.heap[p2_]? = some (.cells #[.int .i64 0, .int .i64 0, .int .i64 0, .int .i64 0] 25 (0, 0))) ∧ (b 11 = true → w'.heap[p2_]? = some (.cells #[.int .i64 1, .int .i64 0, .int .i64 1, .int .i64 0] 25 (0, 0))) ∧ (b 6 = true → b 7 = true → p0_ ≠ p1_) ∧ (b 6 = true → b 8 = true → p0_ ≠ p2_) ∧ (b 7 = true → b 8 = true → p1_ ≠ p2_) ∧ (b 6 = true → (m6_ : Value) = .pointer (some ⟨p0_, 0, none⟩)) ∧ (b 7 = true → (m7_ : Value) = .pointer (some ⟨p1_, 0, none⟩)) ∧ (b 8 = true → (m8_ : Value) = .pointer (some ⟨p2_, 0, none⟩))) HT_.out HW_.out (by kernel_rfl) (by kernel_rfl) ?_ ?_ ?_
    · exact ⟨0, 0, 0, .bool false, .bool false, .bool false, by simp only [putSel, Bool.false_eq_true, if_false], HX.out, below_drew HB.out, fun h_ => absurd h_ (by decide), fun h_ => absurd h_ (by decide), fun h_ => absurd h_ (by decide), fun h_ => absurd h_ (by decide), fun h_ => absurd h_ (by decide), fun h_ => absurd h_ (by decide), fun h_ => absurd h_ (by decide), fun h_ => absurd h_ (by decide), fun h_ => absurd h_ (by decide), fun h_ => absurd h_ (by decide), fun h_ => absurd h_ (by decide), fun h_ => absurd h_ (by decide), fun h_ => absurd h_ (by decide), fun h_ => absurd h_ (by decide), fun h_ => absurd h_ (by decide), fun h_ => absurd h_ (by decide), fun h_ => absurd h_ (by decide), fun h_ => absurd h_ (by decide)⟩
    · skip
      clear HB HX
      refine steps_cons ?_ ?_
      · rintro b a w' ⟨p0_, p1_, p2_, m6_, m7_, m8_, ha, Q_HX, Q_HB, Q_HG0, Q_HL0, Q_HZ0, Q_HC0, Q_HG1, Q_HL1, Q_HZ1, Q_HC1, Q_HG2, Q_HL2, Q_HZ2, Q_HC2, Q_HN01, Q_HN02, Q_HN12, Q_X6_, Q_X7_, Q_X8_⟩ hb_ hon hoff
        refine ⟨_, rfl, fun K hK => ?_⟩
        have e1 : a.tmps[1]? = some (.pointer (some ⟨w.heap.size, 0, none⟩)) := by rw [ha]; exact (putSel_off rfl).trans rfl
        replace ha := Aside0.mk ha
        have HX := Aside0.mk Q_HX
        have HB := Aside0.mk Q_HB
        have d0 := blk_cell HX.out 0
        have d1 := blk_cell HX.out 1
        have dl := blk_lt HX.out
        refine value_ (w1 := w') (v := .agg #[.int .i64 1, .int .i64 0]) (by rfl) rfl ?_ ?_
        · go_simp
          (try simp only [i64_w])
          try rfl
        refine hK.out _ _ ⟨p0_, p1_, p2_, m6_, m7_, m8_, (by rw [ha.out]; exact putSel_upk 0 hb_ rfl rfl rfl), Q_HX, Q_HB, Q_HG0, Q_HL0, Q_HZ0, fun h0_ => absurd ((hoff 9 (by kernel_rfl)).symm.trans h0_) (by decide), Q_HG1, Q_HL1, Q_HZ1, fun h0_ => absurd ((hoff 10 (by kernel_rfl)).symm.trans h0_) (by decide), Q_HG2, Q_HL2, Q_HZ2, fun h0_ => absurd ((hoff 11 (by kernel_rfl)).symm.trans h0_) (by decide), Q_HN01, Q_HN02, Q_HN12, Q_X6_, Q_X7_, Q_X8_⟩
      refine steps_cons ?_ ?_
      · rintro b a w' ⟨p0_, p1_, p2_, m6_, m7_, m8_, ha, Q_HX, Q_HB, Q_HG0, Q_HL0, Q_HZ0, Q_HC0, Q_HG1, Q_HL1, Q_HZ1, Q_HC1, Q_HG2, Q_HL2, Q_HZ2, Q_HC2, Q_HN01, Q_HN02, Q_HN12, Q_X6_, Q_X7_, Q_X8_⟩ hb_ hon hoff
        refine ⟨_, rfl, fun K hK => ?_⟩
        have e6 : a.tmps[6]? = some (.agg #[.int .i64 1, .int .i64 0]) := by rw [ha]; exact putSel_on (e := (0, 6, .agg #[.int .i64 1, .int .i64 0])) 0 rfl rfl (hon 0 (by kernel_rfl)) rfl
        replace ha := Aside0.mk ha
        have HX := Aside0.mk Q_HX
        have HB := Aside0.mk Q_HB
        refine value_ (w1 := w') (v := .agg #[.int .i64 0, .int .i64 1, .int .i64 1, .int .i64 0]) (by rfl) rfl ?_ ?_
        · go_simp
          (try simp only [i64_w])
          try rfl
        refine hK.out _ _ ⟨p0_, p1_, p2_, m6_, m7_, m8_, (by rw [ha.out]; exact putSel_upk 1 hb_ rfl rfl rfl), Q_HX, Q_HB, Q_HG0, Q_HL0, Q_HZ0, fun h0_ => absurd ((hoff 9 (by kernel_rfl)).symm.trans h0_) (by decide), Q_HG1, Q_HL1, Q_HZ1, fun h0_ => absurd ((hoff 10 (by kernel_rfl)).symm.trans h0_) (by decide), Q_HG2, Q_HL2, Q_HZ2, fun h0_ => absurd ((hoff 11 (by kernel_rfl)).symm.trans h0_) (by decide), Q_HN01, Q_HN02, Q_HN12, Q_X6_, Q_X7_, Q_X8_⟩
      refine steps_cons ?_ ?_
      · rintro b a w' ⟨p0_, p1_, p2_, m6_, m7_, m8_, ha, Q_HX, Q_HB, Q_HG0, Q_HL0, Q_HZ0, Q_HC0, Q_HG1, Q_HL1, Q_HZ1, Q_HC1, Q_HG2, Q_HL2, Q_HZ2, Q_HC2, Q_HN01, Q_HN02, Q_HN12, Q_X6_, Q_X7_, Q_X8_⟩ hb_ hon hoff
        refine ⟨_, rfl, fun K hK => ?_⟩
        have e1 : a.tmps[1]? = some (.pointer (some ⟨w.heap.size, 0, none⟩)) := by rw [ha]; exact (putSel_off rfl).trans rfl
        replace ha := Aside0.mk ha
        have HX := Aside0.mk Q_HX
        have HB := Aside0.mk Q_HB
        have d0 := blk_cell HX.out 0
        have d1 := blk_cell HX.out 1
        have dl := blk_lt HX.out
        refine value_ (w1 := w') (v := .agg #[.int .i64 1, .int .i64 0]) (by rfl) rfl ?_ ?_
        · go_simp
          (try simp only [i64_w])
          try rfl
        refine hK.out _ _ ⟨p0_, p1_, p2_, m6_, m7_, m8_, (by rw [ha.out]; exact putSel_upk 2 hb_ rfl rfl rfl), Q_HX, Q_HB, Q_HG0, Q_HL0, Q_HZ0, Q_HC0, Q_HG1, Q_HL1, Q_HZ1, fun h0_ => absurd ((hoff 10 (by kernel_rfl)).symm.trans h0_) (by decide), Q_HG2, Q_HL2, Q_HZ2, fun h0_ => absurd ((hoff 11 (by kernel_rfl)).symm.trans h0_) (by decide), Q_HN01, Q_HN02, Q_HN12, Q_X6_, Q_X7_, Q_X8_⟩
      refine steps_cons ?_ ?_
      · rintro b a w' ⟨p0_, p1_, p2_, m6_, m7_, m8_, ha, Q_HX, Q_HB, Q_HG0, Q_HL0, Q_HZ0, Q_HC0, Q_HG1, Q_HL1, Q_HZ1, Q_HC1, Q_HG2, Q_HL2, Q_HZ2, Q_HC2, Q_HN01, Q_HN02, Q_HN12, Q_X6_, Q_X7_, Q_X8_⟩ hb_ hon hoff
        refine ⟨_, rfl, fun K hK => ?_⟩
        have e8 : a.tmps[8]? = some (.agg #[.int .i64 1, .int .i64 0]) := by rw [ha]; exact putSel_on (e := (2, 8, .agg #[.int .i64 1, .int .i64 0])) 2 rfl rfl (hon 2 (by kernel_rfl)) rfl
        replace ha := Aside0.mk ha
        have HX := Aside0.mk Q_HX
        have HB := Aside0.mk Q_HB
        refine value_ (w1 := w') (v := .agg #[.int .i64 1, .int .i64 2, .int .i64 1, .int .i64 0]) (by rfl) rfl ?_ ?_
        · go_simp
          (try simp only [i64_w])
          try rfl
        refine hK.out _ _ ⟨p0_, p1_, p2_, m6_, m7_, m8_, (by rw [ha.out]; exact putSel_upk 3 hb_ rfl rfl rfl), Q_HX, Q_HB, Q_HG0, Q_HL0, Q_HZ0, Q_HC0, Q_HG1, Q_HL1, Q_HZ1, fun h0_ => absurd ((hoff 10 (by kernel_rfl)).symm.trans h0_) (by decide), Q_HG2, Q_HL2, Q_HZ2, fun h0_ => absurd ((hoff 11 (by kernel_rfl)).symm.trans h0_) (by decide), Q_HN01, Q_HN02, Q_HN12, Q_X6_, Q_X7_, Q_X8_⟩
      refine steps_cons ?_ ?_
      · rintro b a w' ⟨p0_, p1_, p2_, m6_, m7_, m8_, ha, Q_HX, Q_HB, Q_HG0, Q_HL0, Q_HZ0, Q_HC0, Q_HG1, Q_HL1, Q_HZ1, Q_HC1, Q_HG2, Q_HL2, Q_HZ2, Q_HC2, Q_HN01, Q_HN02, Q_HN12, Q_X6_, Q_X7_, Q_X8_⟩ hb_ hon hoff
        refine ⟨_, rfl, fun K hK => ?_⟩
        have e1 : a.tmps[1]? = some (.pointer (some ⟨w.heap.size, 0, none⟩)) := by rw [ha]; exact (putSel_off rfl).trans rfl
        replace ha := Aside0.mk ha
        have HX := Aside0.mk Q_HX
        have HB := Aside0.mk Q_HB
        have d0 := blk_cell HX.out 0
        have d1 := blk_cell HX.out 1
        have dl := blk_lt HX.out
        refine value_ (w1 := w') (v := .agg #[.int .i64 1, .int .i64 0]) (by rfl) rfl ?_ ?_
        · go_simp
          (try simp only [i64_w])
          try rfl
        refine hK.out _ _ ⟨p0_, p1_, p2_, m6_, m7_, m8_, (by rw [ha.out]; exact putSel_upk 4 hb_ rfl rfl rfl), Q_HX, Q_HB, Q_HG0, Q_HL0, Q_HZ0, Q_HC0, Q_HG1, Q_HL1, Q_HZ1, Q_HC1, Q_HG2, Q_HL2, Q_HZ2, fun h0_ => absurd ((hoff 11 (by kernel_rfl)).symm.trans h0_) (by decide), Q_HN01, Q_HN02, Q_HN12, Q_X6_, Q_X7_, Q_X8_⟩
      refine steps_cons ?_ ?_
      · rintro b a w' ⟨p0_, p1_, p2_, m6_, m7_, m8_, ha, Q_HX, Q_HB, Q_HG0, Q_HL0, Q_HZ0, Q_HC0, Q_HG1, Q_HL1, Q_HZ1, Q_HC1, Q_HG2, Q_HL2, Q_HZ2, Q_HC2, Q_HN01, Q_HN02, Q_HN12, Q_X6_, Q_X7_, Q_X8_⟩ hb_ hon hoff
        refine ⟨_, rfl, fun K hK => ?_⟩
        have e10 : a.tmps[10]? = some (.agg #[.int .i64 1, .int .i64 0]) := by rw [ha]; exact putSel_on (e := (4, 10, .agg #[.int .i64 1, .int .i64 0])) 4 rfl rfl (hon 4 (by kernel_rfl)) rfl
        replace ha := Aside0.mk ha
        have HX := Aside0.mk Q_HX
        have HB := Aside0.mk Q_HB
        refine value_ (w1 := w') (v := .agg #[.int .i64 1, .int .i64 0, .int .i64 1, .int .i64 0]) (by rfl) rfl ?_ ?_
        · go_simp
          (try simp only [i64_w])
          try rfl
        refine hK.out _ _ ⟨p0_, p1_, p2_, m6_, m7_, m8_, (by rw [ha.out]; exact putSel_upk 5 hb_ rfl rfl rfl), Q_HX, Q_HB, Q_HG0, Q_HL0, Q_HZ0, Q_HC0, Q_HG1, Q_HL1, Q_HZ1, Q_HC1, Q_HG2, Q_HL2, Q_HZ2, fun h0_ => absurd ((hoff 11 (by kernel_rfl)).symm.trans h0_) (by decide), Q_HN01, Q_HN02, Q_HN12, Q_X6_, Q_X7_, Q_X8_⟩
      refine steps_cons ?_ ?_
      · rintro b a w' ⟨p0_, p1_, p2_, m6_, m7_, m8_, ha, Q_HX, Q_HB, Q_HG0, Q_HL0, Q_HZ0, Q_HC0, Q_HG1, Q_HL1, Q_HZ1, Q_HC1, Q_HG2, Q_HL2, Q_HZ2, Q_HC2, Q_HN01, Q_HN02, Q_HN12, Q_X6_, Q_X7_, Q_X8_⟩ hb_ hon hoff
        refine ⟨_, rfl, fun K hK => ?_⟩
        replace ha := Aside0.mk ha
        have HX := Aside0.mk Q_HX
        have HB := Aside0.mk Q_HB
        refine value_ (w1 := w'.alloc (.cells #[.int .i64 0, .int .i64 0, .int .i64 0, .int .i64 0] 25)) (v := .pointer (some ⟨w'.heap.size, 0, none⟩)) (by rfl) rfl (by go_simp) ?_
        refine hK.out _ _ ⟨w'.heap.size, p1_, p2_, (.pointer (some ⟨w'.heap.size, 0, none⟩)), m7_, m8_, (by rw [ha.out]; exact putSel_upk 6 hb_ rfl rfl rfl), blk_alloc HX.out _, below_alloc HB.out _, fun _ => blk_lt HX.out, fun _ => (by simp), fun _ _ => blk_new w' _, fun h0_ => absurd ((hoff 9 (by kernel_rfl)).symm.trans h0_) (by decide), Q_HG1, fun h0_ => lt_alloc (Q_HL1 h0_) _, fun h0_ h1_ => blk_alloc (Q_HZ1 h0_ h1_) _, fun h0_ => absurd ((hoff 10 (by kernel_rfl)).symm.trans h0_) (by decide), Q_HG2, fun h0_ => lt_alloc (Q_HL2 h0_) _, fun h0_ h1_ => blk_alloc (Q_HZ2 h0_ h1_) _, fun h0_ => absurd ((hoff 11 (by kernel_rfl)).symm.trans h0_) (by decide), fun _ _ => (Nat.ne_of_gt (Q_HL1 (by assumption))), fun _ _ => (Nat.ne_of_gt (Q_HL2 (by assumption))), Q_HN12, fun _ => rfl, Q_X7_, Q_X8_⟩
      refine steps_cons ?_ ?_
      · rintro b a w' ⟨p0_, p1_, p2_, m6_, m7_, m8_, ha, Q_HX, Q_HB, Q_HG0, Q_HL0, Q_HZ0, Q_HC0, Q_HG1, Q_HL1, Q_HZ1, Q_HC1, Q_HG2, Q_HL2, Q_HZ2, Q_HC2, Q_HN01, Q_HN02, Q_HN12, Q_X6_, Q_X7_, Q_X8_⟩ hb_ hon hoff
        refine ⟨_, rfl, fun K hK => ?_⟩
        replace ha := Aside0.mk ha
        have HX := Aside0.mk Q_HX
        have HB := Aside0.mk Q_HB
        refine value_ (w1 := w'.alloc (.cells #[.int .i64 0, .int .i64 0, .int .i64 0, .int .i64 0] 25)) (v := .pointer (some ⟨w'.heap.size, 0, none⟩)) (by rfl) rfl (by go_simp) ?_
        refine hK.out _ _ ⟨p0_, w'.heap.size, p2_, m6_, (.pointer (some ⟨w'.heap.size, 0, none⟩)), m8_, (by rw [ha.out]; exact putSel_upk 7 hb_ rfl rfl rfl), blk_alloc HX.out _, below_alloc HB.out _, Q_HG0, fun h0_ => lt_alloc (Q_HL0 h0_) _, fun h0_ h1_ => blk_alloc (Q_HZ0 h0_ h1_) _, fun h0_ => absurd ((hoff 9 (by kernel_rfl)).symm.trans h0_) (by decide), fun _ => blk_lt HX.out, fun _ => (by simp), fun _ _ => blk_new w' _, fun h0_ => absurd ((hoff 10 (by kernel_rfl)).symm.trans h0_) (by decide), Q_HG2, fun h0_ => lt_alloc (Q_HL2 h0_) _, fun h0_ h1_ => blk_alloc (Q_HZ2 h0_ h1_) _, fun h0_ => absurd ((hoff 11 (by kernel_rfl)).symm.trans h0_) (by decide), fun _ _ => (Nat.ne_of_lt (Q_HL0 (by assumption))), Q_HN02, fun _ _ => (Nat.ne_of_gt (Q_HL2 (by assumption))), Q_X6_, fun _ => rfl, Q_X8_⟩
      refine steps_cons ?_ ?_
      · rintro b a w' ⟨p0_, p1_, p2_, m6_, m7_, m8_, ha, Q_HX, Q_HB, Q_HG0, Q_HL0, Q_HZ0, Q_HC0, Q_HG1, Q_HL1, Q_HZ1, Q_HC1, Q_HG2, Q_HL2, Q_HZ2, Q_HC2, Q_HN01, Q_HN02, Q_HN12, Q_X6_, Q_X7_, Q_X8_⟩ hb_ hon hoff
        refine ⟨_, rfl, fun K hK => ?_⟩
        replace ha := Aside0.mk ha
        have HX := Aside0.mk Q_HX
        have HB := Aside0.mk Q_HB
        refine value_ (w1 := w'.alloc (.cells #[.int .i64 0, .int .i64 0, .int .i64 0, .int .i64 0] 25)) (v := .pointer (some ⟨w'.heap.size, 0, none⟩)) (by rfl) rfl (by go_simp) ?_
        refine hK.out _ _ ⟨p0_, p1_, w'.heap.size, m6_, m7_, (.pointer (some ⟨w'.heap.size, 0, none⟩)), (by rw [ha.out]; exact putSel_upk 8 hb_ rfl rfl rfl), blk_alloc HX.out _, below_alloc HB.out _, Q_HG0, fun h0_ => lt_alloc (Q_HL0 h0_) _, fun h0_ h1_ => blk_alloc (Q_HZ0 h0_ h1_) _, fun h0_ => absurd ((hoff 9 (by kernel_rfl)).symm.trans h0_) (by decide), Q_HG1, fun h0_ => lt_alloc (Q_HL1 h0_) _, fun h0_ h1_ => blk_alloc (Q_HZ1 h0_ h1_) _, fun h0_ => absurd ((hoff 10 (by kernel_rfl)).symm.trans h0_) (by decide), fun _ => blk_lt HX.out, fun _ => (by simp), fun _ _ => blk_new w' _, fun h0_ => absurd ((hoff 11 (by kernel_rfl)).symm.trans h0_) (by decide), Q_HN01, fun _ _ => (Nat.ne_of_lt (Q_HL0 (by assumption))), fun _ _ => (Nat.ne_of_lt (Q_HL1 (by assumption))), Q_X6_, Q_X7_, fun _ => rfl⟩
      refine steps_cons ?_ ?_
      · rintro b a w' ⟨p0_, p1_, p2_, m6_, m7_, m8_, ha, Q_HX, Q_HB, Q_HG0, Q_HL0, Q_HZ0, Q_HC0, Q_HG1, Q_HL1, Q_HZ1, Q_HC1, Q_HG2, Q_HL2, Q_HZ2, Q_HC2, Q_HN01, Q_HN02, Q_HN12, Q_X6_, Q_X7_, Q_X8_⟩ hb_ hon hoff
        refine ⟨_, rfl, fun K hK => ?_⟩
        have e2 : a.tmps[2]? = some (m6_) := by rw [ha]; exact putSel_on (e := (6, 2, m6_)) 6 rfl rfl (hon 6 (by kernel_rfl)) rfl
        rw [Q_X6_ (hon 6 (by kernel_rfl))] at e2
        have e7 : a.tmps[7]? = some (.agg #[.int .i64 0, .int .i64 1, .int .i64 1, .int .i64 0]) := by rw [ha]; exact putSel_on (e := (1, 7, .agg #[.int .i64 0, .int .i64 1, .int .i64 1, .int .i64 0])) 1 rfl rfl (hon 1 (by kernel_rfl)) rfl
        replace ha := Aside0.mk ha
        have HX := Aside0.mk Q_HX
        have HB := Aside0.mk Q_HB
        have HG0 := Aside0.mk (Q_HG0 (hon 6 (by kernel_rfl)))
        have HL0 := Aside0.mk (Q_HL0 (hon 6 (by kernel_rfl)))
        have HZ0 := Aside0.mk (Q_HZ0 (hon 6 (by kernel_rfl)) hb_)
        have HG1 := Aside0.mk (Q_HG1 (hon 7 (by kernel_rfl)))
        have HL1 := Aside0.mk (Q_HL1 (hon 7 (by kernel_rfl)))
        have HZ1 := Aside0.mk (Q_HZ1 (hon 7 (by kernel_rfl)) (hoff 10 (by kernel_rfl)))
        have HG2 := Aside0.mk (Q_HG2 (hon 8 (by kernel_rfl)))
        have HL2 := Aside0.mk (Q_HL2 (hon 8 (by kernel_rfl)))
        have HZ2 := Aside0.mk (Q_HZ2 (hon 8 (by kernel_rfl)) (hoff 11 (by kernel_rfl)))
        have HN01 := Aside0.mk (Q_HN01 (hon 6 (by kernel_rfl)) (hon 7 (by kernel_rfl)))
        have HN02 := Aside0.mk (Q_HN02 (hon 6 (by kernel_rfl)) (hon 8 (by kernel_rfl)))
        have HN12 := Aside0.mk (Q_HN12 (hon 7 (by kernel_rfl)) (hon 8 (by kernel_rfl)))
        have c0 := blk_cell HZ0.out 0
        have c1 := blk_cell HZ0.out 1
        have c2 := blk_cell HZ0.out 2
        have c3 := blk_cell HZ0.out 3
        have hl := HL0.out
        have f0 := blk_frozen HZ0.out 0
        have f1 := blk_frozen HZ0.out 1
        have f2 := blk_frozen HZ0.out 2
        have f3 := blk_frozen HZ0.out 3
        have hz := HZ0.out
        refine skip_ (w1 := (set4 w' p0_ 0 1 1 0)) (by rfl) rfl (by unfold set4; go_simp) ?_
        refine hK.out _ _ ⟨p0_, p1_, p2_, m6_, m7_, m8_, (by rw [ha.out]; exact putSel_none (v := undef) rfl), far4 HX.out (Nat.ne_of_lt HG0.out), below4 HB.out (Nat.le_of_lt HG0.out), Q_HG0, fun _ => lt4 HL0.out, fun _ h1_ => absurd ((up_self b 9).symm.trans h1_) (by decide), fun _ => blk4 HZ0.out, Q_HG1, fun _ => lt4 HL1.out, fun _ _ => far4 HZ1.out (Ne.symm HN01.out), fun h0_ => absurd ((hoff 10 (by kernel_rfl)).symm.trans h0_) (by decide), Q_HG2, fun _ => lt4 HL2.out, fun _ _ => far4 HZ2.out (Ne.symm HN02.out), fun h0_ => absurd ((hoff 11 (by kernel_rfl)).symm.trans h0_) (by decide), Q_HN01, Q_HN02, Q_HN12, Q_X6_, Q_X7_, Q_X8_⟩
      refine steps_cons ?_ ?_
      · rintro b a w' ⟨p0_, p1_, p2_, m6_, m7_, m8_, ha, Q_HX, Q_HB, Q_HG0, Q_HL0, Q_HZ0, Q_HC0, Q_HG1, Q_HL1, Q_HZ1, Q_HC1, Q_HG2, Q_HL2, Q_HZ2, Q_HC2, Q_HN01, Q_HN02, Q_HN12, Q_X6_, Q_X7_, Q_X8_⟩ hb_ hon hoff
        refine ⟨_, rfl, fun K hK => ?_⟩
        have e3 : a.tmps[3]? = some (m7_) := by rw [ha]; exact putSel_on (e := (7, 3, m7_)) 7 rfl rfl (hon 7 (by kernel_rfl)) rfl
        rw [Q_X7_ (hon 7 (by kernel_rfl))] at e3
        have e9 : a.tmps[9]? = some (.agg #[.int .i64 1, .int .i64 2, .int .i64 1, .int .i64 0]) := by rw [ha]; exact putSel_on (e := (3, 9, .agg #[.int .i64 1, .int .i64 2, .int .i64 1, .int .i64 0])) 3 rfl rfl (hon 3 (by kernel_rfl)) rfl
        replace ha := Aside0.mk ha
        have HX := Aside0.mk Q_HX
        have HB := Aside0.mk Q_HB
        have HG0 := Aside0.mk (Q_HG0 (hon 6 (by kernel_rfl)))
        have HL0 := Aside0.mk (Q_HL0 (hon 6 (by kernel_rfl)))
        have HC0 := Aside0.mk (Q_HC0 (hon 9 (by kernel_rfl)))
        have HG1 := Aside0.mk (Q_HG1 (hon 7 (by kernel_rfl)))
        have HL1 := Aside0.mk (Q_HL1 (hon 7 (by kernel_rfl)))
        have HZ1 := Aside0.mk (Q_HZ1 (hon 7 (by kernel_rfl)) hb_)
        have HG2 := Aside0.mk (Q_HG2 (hon 8 (by kernel_rfl)))
        have HL2 := Aside0.mk (Q_HL2 (hon 8 (by kernel_rfl)))
        have HZ2 := Aside0.mk (Q_HZ2 (hon 8 (by kernel_rfl)) (hoff 11 (by kernel_rfl)))
        have HN01 := Aside0.mk (Q_HN01 (hon 6 (by kernel_rfl)) (hon 7 (by kernel_rfl)))
        have HN02 := Aside0.mk (Q_HN02 (hon 6 (by kernel_rfl)) (hon 8 (by kernel_rfl)))
        have HN12 := Aside0.mk (Q_HN12 (hon 7 (by kernel_rfl)) (hon 8 (by kernel_rfl)))
        have c0 := blk_cell HZ1.out 0
        have c1 := blk_cell HZ1.out 1
        have c2 := blk_cell HZ1.out 2
        have c3 := blk_cell HZ1.out 3
        have hl := HL1.out
        have f0 := blk_frozen HZ1.out 0
        have f1 := blk_frozen HZ1.out 1
        have f2 := blk_frozen HZ1.out 2
        have f3 := blk_frozen HZ1.out 3
        have hz := HZ1.out
        refine skip_ (w1 := (set4 w' p1_ 1 2 1 0)) (by rfl) rfl (by unfold set4; go_simp) ?_
        refine hK.out _ _ ⟨p0_, p1_, p2_, m6_, m7_, m8_, (by rw [ha.out]; exact putSel_none (v := undef) rfl), far4 HX.out (Nat.ne_of_lt HG1.out), below4 HB.out (Nat.le_of_lt HG1.out), Q_HG0, fun _ => lt4 HL0.out, fun _ h1_ => absurd ((hon 9 (by kernel_rfl)).symm.trans h1_) (by decide), fun _ => far4 HC0.out HN01.out, Q_HG1, fun _ => lt4 HL1.out, fun _ h1_ => absurd ((up_self b 10).symm.trans h1_) (by decide), fun _ => blk4 HZ1.out, Q_HG2, fun _ => lt4 HL2.out, fun _ _ => far4 HZ2.out (Ne.symm HN12.out), fun h0_ => absurd ((hoff 11 (by kernel_rfl)).symm.trans h0_) (by decide), Q_HN01, Q_HN02, Q_HN12, Q_X6_, Q_X7_, Q_X8_⟩
      refine steps_cons ?_ ?_
      · rintro b a w' ⟨p0_, p1_, p2_, m6_, m7_, m8_, ha, Q_HX, Q_HB, Q_HG0, Q_HL0, Q_HZ0, Q_HC0, Q_HG1, Q_HL1, Q_HZ1, Q_HC1, Q_HG2, Q_HL2, Q_HZ2, Q_HC2, Q_HN01, Q_HN02, Q_HN12, Q_X6_, Q_X7_, Q_X8_⟩ hb_ hon hoff
        refine ⟨_, rfl, fun K hK => ?_⟩
        have e4 : a.tmps[4]? = some (m8_) := by rw [ha]; exact putSel_on (e := (8, 4, m8_)) 8 rfl rfl (hon 8 (by kernel_rfl)) rfl
        rw [Q_X8_ (hon 8 (by kernel_rfl))] at e4
        have e11 : a.tmps[11]? = some (.agg #[.int .i64 1, .int .i64 0, .int .i64 1, .int .i64 0]) := by rw [ha]; exact putSel_on (e := (5, 11, .agg #[.int .i64 1, .int .i64 0, .int .i64 1, .int .i64 0])) 5 rfl rfl (hon 5 (by kernel_rfl)) rfl
        replace ha := Aside0.mk ha
        have HX := Aside0.mk Q_HX
        have HB := Aside0.mk Q_HB
        have HG0 := Aside0.mk (Q_HG0 (hon 6 (by kernel_rfl)))
        have HL0 := Aside0.mk (Q_HL0 (hon 6 (by kernel_rfl)))
        have HC0 := Aside0.mk (Q_HC0 (hon 9 (by kernel_rfl)))
        have HG1 := Aside0.mk (Q_HG1 (hon 7 (by kernel_rfl)))
        have HL1 := Aside0.mk (Q_HL1 (hon 7 (by kernel_rfl)))
        have HC1 := Aside0.mk (Q_HC1 (hon 10 (by kernel_rfl)))
        have HG2 := Aside0.mk (Q_HG2 (hon 8 (by kernel_rfl)))
        have HL2 := Aside0.mk (Q_HL2 (hon 8 (by kernel_rfl)))
        have HZ2 := Aside0.mk (Q_HZ2 (hon 8 (by kernel_rfl)) hb_)
        have HN01 := Aside0.mk (Q_HN01 (hon 6 (by kernel_rfl)) (hon 7 (by kernel_rfl)))
        have HN02 := Aside0.mk (Q_HN02 (hon 6 (by kernel_rfl)) (hon 8 (by kernel_rfl)))
        have HN12 := Aside0.mk (Q_HN12 (hon 7 (by kernel_rfl)) (hon 8 (by kernel_rfl)))
        have c0 := blk_cell HZ2.out 0
        have c1 := blk_cell HZ2.out 1
        have c2 := blk_cell HZ2.out 2
        have c3 := blk_cell HZ2.out 3
        have hl := HL2.out
        have f0 := blk_frozen HZ2.out 0
        have f1 := blk_frozen HZ2.out 1
        have f2 := blk_frozen HZ2.out 2
        have f3 := blk_frozen HZ2.out 3
        have hz := HZ2.out
        refine skip_ (w1 := (set4 w' p2_ 1 0 1 0)) (by rfl) rfl (by unfold set4; go_simp) ?_
        refine hK.out _ _ ⟨p0_, p1_, p2_, m6_, m7_, m8_, (by rw [ha.out]; exact putSel_none (v := undef) rfl), far4 HX.out (Nat.ne_of_lt HG2.out), below4 HB.out (Nat.le_of_lt HG2.out), Q_HG0, fun _ => lt4 HL0.out, fun _ h1_ => absurd ((hon 9 (by kernel_rfl)).symm.trans h1_) (by decide), fun _ => far4 HC0.out HN02.out, Q_HG1, fun _ => lt4 HL1.out, fun _ h1_ => absurd ((hon 10 (by kernel_rfl)).symm.trans h1_) (by decide), fun _ => far4 HC1.out HN12.out, Q_HG2, fun _ => lt4 HL2.out, fun _ h1_ => absurd ((up_self b 11).symm.trans h1_) (by decide), fun _ => blk4 HZ2.out, Q_HN01, Q_HN02, Q_HN12, Q_X6_, Q_X7_, Q_X8_⟩
      exact steps_nil
    · rintro b a w' hall ⟨p0_, p1_, p2_, m6_, m7_, m8_, ha, Q_HX, Q_HB, Q_HG0, Q_HL0, Q_HZ0, Q_HC0, Q_HG1, Q_HL1, Q_HZ1, Q_HC1, Q_HG2, Q_HL2, Q_HZ2, Q_HC2, Q_HN01, Q_HN02, Q_HN12, Q_X6_, Q_X7_, Q_X8_⟩
      clear HB HX
      have hb0_ := hall 0 (by kernel_rfl)
      have hb1_ := hall 1 (by kernel_rfl)
      have hb2_ := hall 2 (by kernel_rfl)
      have hb3_ := hall 3 (by kernel_rfl)
      have hb4_ := hall 4 (by kernel_rfl)
      have hb5_ := hall 5 (by kernel_rfl)
      have hb6_ := hall 6 (by kernel_rfl)
      have hb7_ := hall 7 (by kernel_rfl)
      have hb8_ := hall 8 (by kernel_rfl)
      have hb9_ := hall 9 (by kernel_rfl)
      have hb10_ := hall 10 (by kernel_rfl)
      have hb11_ := hall 11 (by kernel_rfl)
      subst ha
      obtain rfl := Q_X6_ hb6_
      obtain rfl := Q_X7_ hb7_
      obtain rfl := Q_X8_ hb8_
      simp only [putSel, hb0_, hb1_, hb2_, hb3_, hb4_, hb5_, hb6_, hb7_, hb8_, hb9_, hb10_, hb11_, if_true, Act.put, List.setIfInBounds_toArray, List.set_cons_zero, List.set_cons_succ]
      have HX := Aside0.mk Q_HX
      clear Q_HX
      have HB := Aside0.mk Q_HB
      clear Q_HB
      have HG0 := Aside0.mk (Q_HG0 hb6_)
      clear Q_HG0
      have HL0 := Aside0.mk (Q_HL0 hb6_)
      clear Q_HL0
      clear Q_HZ0
      have HC0 := Aside0.mk (Q_HC0 hb9_)
      clear Q_HC0
      have HG1 := Aside0.mk (Q_HG1 hb7_)
      clear Q_HG1
      have HL1 := Aside0.mk (Q_HL1 hb7_)
      clear Q_HL1
      clear Q_HZ1
      have HC1 := Aside0.mk (Q_HC1 hb10_)
      clear Q_HC1
      have HG2 := Aside0.mk (Q_HG2 hb8_)
      clear Q_HG2
      have HL2 := Aside0.mk (Q_HL2 hb8_)
      clear Q_HL2
      clear Q_HZ2
      have HC2 := Aside0.mk (Q_HC2 hb11_)
      clear Q_HC2
      have HN01 := Aside0.mk (Q_HN01 hb6_ hb7_)
      clear Q_HN01
      have HN02 := Aside0.mk (Q_HN02 hb6_ hb8_)
      clear Q_HN02
      have HN12 := Aside0.mk (Q_HN12 hb7_ hb8_)
      clear Q_HN12
      clear hall hb0_ hb1_ hb2_ hb3_ hb4_ hb5_ hb6_ hb7_ hb8_ hb9_ hb10_ hb11_

      go_wp2
      go_meet
      case rel => exact ⟨p0_, p1_, p2_, rfl, rfl, rfl, HC0, HC1, HC2, HX, HB⟩
  case rest =>
    obtain ⟨P, Q, R, rfl, rfl, rfl, H2_0, H3_0, H4_0, H1_0, HB_0⟩ := hcut
    have d0 := blk_cell H1_0.out 0
    have d1 := blk_cell H1_0.out 1
    have p0 := blk_cell H2_0.out 0
    have p1 := blk_cell H2_0.out 1
    have p2 := blk_cell H2_0.out 2
    have p3 := blk_cell H2_0.out 3
    have q0 := blk_cell H3_0.out 0
    have q1 := blk_cell H3_0.out 1
    have q2 := blk_cell H3_0.out 2
    have q3 := blk_cell H3_0.out 3
    have r0 := blk_cell H4_0.out 0
    have r1 := blk_cell H4_0.out 1
    have r2 := blk_cell H4_0.out 2
    have r3 := blk_cell H4_0.out 3
    have dl := blk_lt H1_0.out
    have pl := blk_lt H2_0.out
    have ql := blk_lt H3_0.out
    have rl := blk_lt H4_0.out
    go_wp2_with (first | (go_at_call 10; have A3 := single_calls none 0 [] w4 ⟨rfl, by simp, fun h => absurd h (by simp)⟩ (by simp) (by simp); refine A3.mono ?_; rintro e w5 ⟨he, hB⟩; clear A3; rw [show (decide (List.map gt ([] : List Dl)).Nodup) = true by decide] at he; subst he; clear d0 d1 p0 p1 p2 p3 q0 q1 q2 q3 r0 r1 r2 r3 dl pl ql rl; have H1_5 := Aside0.mk (blk_below (H1_4.out) hB); have H2_5 := Aside0.mk (blk_below (H2_4.out) hB); have H3_5 := Aside0.mk (blk_below (H3_4.out) hB); have H4_5 := Aside0.mk (blk_below (H4_4.out) hB); have HB_5 := Aside0.mk (below_step (HB_4.out) hB); clear hB; have d0 := blk_cell H1_5.out 0; have d1 := blk_cell H1_5.out 1; have p0 := blk_cell H2_5.out 0; have p1 := blk_cell H2_5.out 1; have p2 := blk_cell H2_5.out 2; have p3 := blk_cell H2_5.out 3; have q0 := blk_cell H3_5.out 0; have q1 := blk_cell H3_5.out 1; have q2 := blk_cell H3_5.out 2; have q3 := blk_cell H3_5.out 3; have r0 := blk_cell H4_5.out 0; have r1 := blk_cell H4_5.out 1; have r2 := blk_cell H4_5.out 2; have r3 := blk_cell H4_5.out 3; have dl := blk_lt H1_5.out; have pl := blk_lt H2_5.out; have ql := blk_lt H3_5.out; have rl := blk_lt H4_5.out) | (go_at_call 7; have A1 : ∀ x ∈ ([(1, 2, 1, 0), (0, 1, 1, 0)] : List Cr), CrOk x := runsOk _ (by decide); have A3 := tree_calls (some ⟨w3.heap.size, 0, none⟩) 2 [(1, 2, 1, 0), (0, 1, 1, 0)] (1, 0) 0 _ (C_two (1, 2, 1, 0) (0, 1, 1, 0) w3) A1 runsOk0 (by simp); refine A3.mono ?_; rintro e w4 ⟨he, hB⟩; clear A3; rw [show (treeL [0] (ofL ([(1, 2, 1, 0), (0, 1, 1, 0)] : List Cr) (1, 0))) = false by decide] at he; subst he; clear d0 d1 p0 p1 p2 p3 q0 q1 q2 q3 r0 r1 r2 r3 dl pl ql rl; have H1_4 := Aside0.mk (blk_below (blk_alloc H1_3.out _) hB); have H2_4 := Aside0.mk (blk_below (blk_alloc H2_3.out _) hB); have H3_4 := Aside0.mk (blk_below (blk_alloc H3_3.out _) hB); have H4_4 := Aside0.mk (blk_below (blk_alloc H4_3.out _) hB); have HB_4 := Aside0.mk (below_step (below_alloc HB_3.out _) hB); clear hB; have d0 := blk_cell H1_4.out 0; have d1 := blk_cell H1_4.out 1; have p0 := blk_cell H2_4.out 0; have p1 := blk_cell H2_4.out 1; have p2 := blk_cell H2_4.out 2; have p3 := blk_cell H2_4.out 3; have q0 := blk_cell H3_4.out 0; have q1 := blk_cell H3_4.out 1; have q2 := blk_cell H3_4.out 2; have q3 := blk_cell H3_4.out 3; have r0 := blk_cell H4_4.out 0; have r1 := blk_cell H4_4.out 1; have r2 := blk_cell H4_4.out 2; have r3 := blk_cell H4_4.out 3; have dl := blk_lt H1_4.out; have pl := blk_lt H2_4.out; have ql := blk_lt H3_4.out; have rl := blk_lt H4_4.out) | (go_at_call 9; have A1 : ∀ x ∈ ([(0, 1, 1, 0), (1, 2, 1, 0), (1, 0, 1, 0)] : List Cr), CrOk x := runsOk _ (by decide); have A3 := once_calls (some ⟨w2.heap.size, 0, none⟩) 3 [(0, 1, 1, 0), (1, 2, 1, 0), (1, 0, 1, 0)] _ (C_three (0, 1, 1, 0) (1, 2, 1, 0) (1, 0, 1, 0) w2) A1 (by simp); refine A3.mono ?_; rintro e w3 ⟨he, hB⟩; clear A3; rw [show (decide ([(0, 1, 1, 0), (1, 2, 1, 0), (1, 0, 1, 0)] : List Cr).Nodup) = true by decide] at he; subst he; clear d0 d1 p0 p1 p2 p3 q0 q1 q2 q3 r0 r1 r2 r3 dl pl ql rl; have H1_3 := Aside0.mk (blk_below (blk_alloc H1_2.out _) hB); have H2_3 := Aside0.mk (blk_below (blk_alloc H2_2.out _) hB); have H3_3 := Aside0.mk (blk_below (blk_alloc H3_2.out _) hB); have H4_3 := Aside0.mk (blk_below (blk_alloc H4_2.out _) hB); have HB_3 := Aside0.mk (below_step (below_alloc HB_2.out _) hB); clear hB; have d0 := blk_cell H1_3.out 0; have d1 := blk_cell H1_3.out 1; have p0 := blk_cell H2_3.out 0; have p1 := blk_cell H2_3.out 1; have p2 := blk_cell H2_3.out 2; have p3 := blk_cell H2_3.out 3; have q0 := blk_cell H3_3.out 0; have q1 := blk_cell H3_3.out 1; have q2 := blk_cell H3_3.out 2; have q3 := blk_cell H3_3.out 3; have r0 := blk_cell H4_3.out 0; have r1 := blk_cell H4_3.out 1; have r2 := blk_cell H4_3.out 2; have r3 := blk_cell H4_3.out 3; have dl := blk_lt H1_3.out; have pl := blk_lt H2_3.out; have ql := blk_lt H3_3.out; have rl := blk_lt H4_3.out) | (go_at_call 8; have A1 : ∀ x ∈ ([(0, 1, 1, 0), (1, 0, 1, 0)] : List Cr), CrOk x := runsOk _ (by decide); have A3 := oneway_calls (some ⟨w1.heap.size, 0, none⟩) 2 [(0, 1, 1, 0), (1, 0, 1, 0)] _ (C_two (0, 1, 1, 0) (1, 0, 1, 0) w1) A1 (by simp); refine A3.mono ?_; rintro e w2 ⟨he, hB⟩; clear A3; rw [show (decide (OneWay ([(0, 1, 1, 0), (1, 0, 1, 0)] : List Cr))) = false by decide] at he; subst he; clear d0 d1 p0 p1 p2 p3 q0 q1 q2 q3 r0 r1 r2 r3 dl pl ql rl; have H1_2 := Aside0.mk (blk_below (blk_alloc H1_1.out _) hB); have H2_2 := Aside0.mk (blk_below (blk_alloc H2_1.out _) hB); have H3_2 := Aside0.mk (blk_below (blk_alloc H3_1.out _) hB); have H4_2 := Aside0.mk (blk_below (blk_alloc H4_1.out _) hB); have HB_2 := Aside0.mk (below_step (below_alloc HB_1.out _) hB); clear hB; have d0 := blk_cell H1_2.out 0; have d1 := blk_cell H1_2.out 1; have p0 := blk_cell H2_2.out 0; have p1 := blk_cell H2_2.out 1; have p2 := blk_cell H2_2.out 2; have p3 := blk_cell H2_2.out 3; have q0 := blk_cell H3_2.out 0; have q1 := blk_cell H3_2.out 1; have q2 := blk_cell H3_2.out 2; have q3 := blk_cell H3_2.out 3; have r0 := blk_cell H4_2.out 0; have r1 := blk_cell H4_2.out 1; have r2 := blk_cell H4_2.out 2; have r3 := blk_cell H4_2.out 3; have dl := blk_lt H1_2.out; have pl := blk_lt H2_2.out; have ql := blk_lt H3_2.out; have rl := blk_lt H4_2.out) | (go_at_call 7; have A1 : ∀ x ∈ ([(0, 1, 1, 0), (1, 2, 1, 0)] : List Cr), CrOk x := runsOk _ (by decide); have A3 := tree_calls (some ⟨wc.heap.size, 0, none⟩) 2 [(0, 1, 1, 0), (1, 2, 1, 0)] (1, 0) 0 _ (C_two (0, 1, 1, 0) (1, 2, 1, 0) wc) A1 runsOk0 (by simp); refine A3.mono ?_; rintro e w1 ⟨he, hB⟩; clear A3; rw [show (treeL [0] (ofL ([(0, 1, 1, 0), (1, 2, 1, 0)] : List Cr) (1, 0))) = true by decide] at he; subst he; clear d0 d1 p0 p1 p2 p3 q0 q1 q2 q3 r0 r1 r2 r3 dl pl ql rl; have H1_1 := Aside0.mk (blk_below (blk_alloc H1_0.out _) hB); have H2_1 := Aside0.mk (blk_below (blk_alloc H2_0.out _) hB); have H3_1 := Aside0.mk (blk_below (blk_alloc H3_0.out _) hB); have H4_1 := Aside0.mk (blk_below (blk_alloc H4_0.out _) hB); have HB_1 := Aside0.mk (below_step (below_alloc HB_0.out _) hB); clear hB; have d0 := blk_cell H1_1.out 0; have d1 := blk_cell H1_1.out 1; have p0 := blk_cell H2_1.out 0; have p1 := blk_cell H2_1.out 1; have p2 := blk_cell H2_1.out 2; have p3 := blk_cell H2_1.out 3; have q0 := blk_cell H3_1.out 0; have q1 := blk_cell H3_1.out 1; have q2 := blk_cell H3_1.out 2; have q3 := blk_cell H3_1.out 3; have r0 := blk_cell H4_1.out 0; have r1 := blk_cell H4_1.out 1; have r2 := blk_cell H4_1.out 2; have r3 := blk_cell H4_1.out 3; have dl := blk_lt H1_1.out; have pl := blk_lt H2_1.out; have ql := blk_lt H3_1.out; have rl := blk_lt H4_1.out))
    go_ret
    exact ⟨rfl, HB_5.out⟩
end Go.Proofs.Ytcbaclmijdoenaa.Lg

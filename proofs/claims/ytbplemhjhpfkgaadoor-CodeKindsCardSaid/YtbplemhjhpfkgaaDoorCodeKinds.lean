/-
  CodeKinds returns true.
-/
import Derived.Test.YtbplemhjhpfkgaaDoorKindsEnd
import Derived.Test.YtbplemhjhpfkgaaDoorCodeRuns
namespace Go.Proofs.YtbplemhjhpfkgaaDoor.Cd
open Go.RowKit Go.Proofs.YtbplemhjhpfkgaaDoorW.PrintWords Go.Proofs.YtbplemhjhpfkgaaDoorW.PrintLast Go.Proofs.YtbplemhjhpfkgaaDoorW.PrintMore Go.Proofs.YtbplemhjhpfkgaaDoor.Rd
open Go.Proofs.YtbplemhjhpfkgaaDoor.Ft (Door Chain new_chain kind_calls chain_iface)
attribute [local go_sem] max2_int min2_int max_two min_two max_three min_three max_four min_four
set_option linter.unusedVariables false
set_option linter.unusedSimpArgs false
def ck5Reg.T5 : Bool × List (List Nat × List Nat) := (true, [([], []), ([], []), ([], []), ([], []), ([], []), ([], []), ([], []), ([6], [6]), ([], []), ([8, 7], [8]), ([], []), ([0, 1, 2, 3, 4, 5, 7, 9, 10], [0, 1, 2, 3, 4, 5, 7, 9, 10]), ([], []), ([12, 11, 9, 0, 1, 2, 3, 4, 5, 6, 7, 8, 9, 10, 11, 12], [11, 12])])
def ck5Reg.B5 : List Nat := [0, 0, 0, 0, 0, 0, 0, 64, 0, 448, 0, 2047, 0, 8191]
theorem ck5Reg.tab5 : rtab .any (opsOf Tryd.f4 5) = ck5Reg.T5 := by kernel_rfl
theorem ck5Reg.bits5 : waitsOk ck5Reg.T5.2 ck5Reg.B5 = true := by kernel_rfl
def ck10Reg.T10 : Bool × List (List Nat × List Nat) := (true, [([], []), ([], []), ([0, 1], [0, 1]), ([], []), ([3, 2], [3]), ([2, 4], [2, 4])])
def ck10Reg.B10 : List Nat := [0, 0, 3, 0, 15, 31]
theorem ck10Reg.tab10 : rtab .any (opsOf Tryd.f4 10) = ck10Reg.T10 := by kernel_rfl
theorem ck10Reg.bits10 : waitsOk ck10Reg.T10.2 ck10Reg.B10 = true := by kernel_rfl
theorem own_nil8 (w : World) : Kd.R (Kd.int .u8) 5 (w.alloc (.cells #[] 5)) w.heap.size (fun _ => True) (.slice (some ⟨w.heap.size, 0, none⟩) 0 0) [] :=
  Kd.R_of_own (enc := Value.int .u8) (h1 := fun _ => rfl) (by simpa [encs] using World.ownsRow_lit (base := w.heap.size) (e := 5) (size := 1) w #[] 0 (Nat.le_refl _) (by simp) rfl) (fun _ _ => trivial)
set_option maxRecDepth 100000 in
set_option maxHeartbeats 16000000 in
theorem codeKinds_calls (n : Int) (Ar : Option Addr) (cr : Nat) (raw : List Int) (A0 : Option Addr) (c0 : Nat) (l0 : List Int) (A1 : Option Addr) (c1 : Nat) (l1 : List Int) (A2 : Option Addr) (c2 : Nat) (l2 : List Int) (A3 : Option Addr) (c3 : Nat) (l3 : List Int) (w : World) (hg : Door w)
    (hr : Kd.C (Kd.int .u8) w Ar raw.length raw) (hrb : Byt raw) (hrc : raw.length ≤ cr) (hrm : cr ≤ 9223372036854775807) (h0 : Kd.C (Kd.int .i64) w A0 l0.length l0) (k0 : l0.length ≤ c0) (h1 : Kd.C (Kd.int .i64) w A1 l1.length l1) (k1 : l1.length ≤ c1) (h2 : Kd.C (Kd.int .i64) w A2 l2.length l2) (k2 : l2.length ≤ c2) (h3 : Kd.C (Kd.int .i64) w A3 l3.length l3) (k3 : l3.length ≤ c3) :
    Calls Tryd.prog 4 #[.int .i64 n, .slice Ar raw.length cr, .agg #[.slice A0 l0.length c0, .slice A1 l1.length c1], .agg #[.slice A2 l2.length c2, .slice A3 l3.length c3]] w fun e w' => e = .returned (.bool true) ∧ Below w.heap.size w w' := by
  obtain ⟨m, hm⟩ : ∃ m, min raw.length 255 = m := ⟨_, rfl⟩
  have hmI : (if (255 : Int) < (raw.length : Int) then (255 : Int) else (raw.length : Int)) = (m : Int) := by rw [← hm]; split <;> omega
  have hm1 : m ≤ raw.length := by omega
  have hm2 : m ≤ 255 := by omega
  clear hm
  have hlt : (raw.take m).length = m := by rw [List.length_take]; omega
  have hrt : Kd.C (Kd.int .u8) w Ar m (raw.take m) := by have := Kd.C_take hr hm1; rwa [hlt] at this
  have hbt : Byt (raw.take m) := fun x hx => hrb x (List.mem_of_mem_take hx)
  generalize raw.take m = bb at hrt hbt hlt
  have HRT := Aside0.mk hrt
  have HBT := Aside0.mk hbt
  have HLT := Lib.hid hlt
  have HG := Aside0.mk hg
  have H0 := Aside0.mk h0
  have H1 := Aside0.mk h1
  have H2 := Aside0.mk h2
  have H3 := Aside0.mk h3
  have K0 := Aside0.mk k0
  have K1 := Aside0.mk k1
  have K2 := Aside0.mk k2
  have K3 := Aside0.mk k3
  clear hrt hbt hlt hg h0 h1 h2 h3 k0 k1 k2 k3 hr hrb
  have HB := Aside0.mk (below_alloc (below_alloc (Below.refl w.heap.size w) (.cells #[.slice A0 l0.length c0, .slice A1 l1.length c1] 36)) (.cells #[.slice A2 l2.length c2, .slice A3 l3.length c3] 37))
  have HK := Aside0.mk (blk_alloc (blk_new w (.cells #[.slice A0 l0.length c0, .slice A1 l1.length c1] 36)) (.cells #[.slice A2 l2.length c2, .slice A3 l3.length c3] 37))
  have hT := blk_new (w.alloc (.cells #[.slice A0 l0.length c0, .slice A1 l1.length c1] 36)) (.cells #[.slice A2 l2.length c2, .slice A3 l3.length c3] 37)
  rw [show (w.alloc (.cells #[.slice A0 l0.length c0, .slice A1 l1.length c1] 36)).heap.size = w.heap.size + 1 by simp] at hT
  have HT := Aside0.mk hT
  clear hT
  go_enter Tryd.func4, Tryd.ntmps4
  go_upto_region 1 with fail
  generalize ((w.alloc (.cells #[.slice A0 l0.length c0, .slice A1 l1.length c1] 36)).alloc (.cells #[.slice A2 l2.length c2, .slice A3 l3.length c3] 37)) = wb at *
  have HO := Aside0.mk (Kd.R_lower (own_nil8 wb) (Nat.le_refl wb.heap.size))
  have HW := Aside0.mk (below_alloc (Below.refl wb.heap.size wb) (.cells #[] 5))
  have HRB := Aside0.mk (Kd.C_below (Kd.C_below HRT.out HB.out) HW.out)
  go_upto_region 2 with (first | ((with_reducible refine gate_builtin (b := .append) (xs := #[.tmp 17, .tmp 22]) rfl ?_); at_builtin; refine Kd.R_append_row (Value.int .u8) (0 : Int) (h1 := fun _ => rfl) (w0 := wb) (wb.heap.size) rfl (.tmp 17) (.tmp 22) 22 5 (.int .u8 0) 1 rfl Tryd.underlying22 infoU8 rfl (by decide) (.slice (some ⟨wb.heap.size, 0, none⟩) 0 0) (([] : List Int)) (bb) (Ar) (m) (cr) (fun _ => True) rfl rfl (fun _ _ => trivial) ?aO ?aR ?aB ?aS ?aL ?_; (case aO => exact HO.out); (case aR => exact HRB.out); (case aB => exact HW.out); (case aS => exact (below_size (by exact HW.out))); (case aL => (have := HLT.out; simp; omega)); intro v1 w1 ho hb hg hat; have HO1 := Aside0.mk ho; have HW1 := Aside0.mk hb; clear ho hb hg))
  have ho2 := HO1.out
  rw [List.nil_append] at ho2
  obtain ⟨Ab, cb, rfl, hcb, hCb⟩ := Kd.R_reads ho2
  have HCb := Aside0.mk hCb
  have HBd := Aside0.mk (below_step HB.out HW1.out)
  replace HK := Aside0.mk (blk_below HK.out HW1.out)
  replace HT := Aside0.mk (blk_below HT.out HW1.out)
  replace H0 := Aside0.mk (Kd.C_below H0.out HBd.out)
  replace H1 := Aside0.mk (Kd.C_below H1.out HBd.out)
  replace H2 := Aside0.mk (Kd.C_below H2.out HBd.out)
  replace H3 := Aside0.mk (Kd.C_below H3.out HBd.out)
  clear ho2 hCb HO1 HW1 HO HW HRB HRT HB
  generalize w1 = wd at *
  go_upto_region 3 with fail
  go_loopw [10] (fun i wr => ∃ kk : Nat, 1 ≤ kk ∧ kk ≤ 10 ∧ i = .int .i64 (kk : Int) ∧ Aside0 (Below wd.heap.size wd wr)) (fun i _ => 10 - (intOf i).toNat)
  case atStart => exact ⟨1, by omega, by omega, rfl, ⟨Below.refl _ _⟩⟩
  case round =>
    obtain ⟨kk, hk1, hk2, rfl, HW⟩ := hrel
    by_cases hlt : kk ≤ 9
    · have hdec : decide ((kk : Int) ≤ 9) = true := decide_eq_true (by omega)
      go_upto_region 5 with fail
      go_cut [11] from 28 to 39 (fun v wx => ∃ (g : Nat) (pA : Option Addr) (pm : Nat) (pl : List Co) (tA : Option Addr) (tm : Nat) (tl : List At), v = .pointer (some ⟨g, 0, none⟩) ∧ Aside0 (wx.heap[g]? = some (.cells #[.int .i64 (kk : Int), .int .i64 n, .int .i64 n, .int .i64 n, .int .i64 n, .int .i64 n, .slice pA pl.length pm, .slice tA tl.length tm, .slice Ab bb.length cb] 30 (0, 0))) ∧ Aside0 (Kd.C kCo wx pA pl.length pl ∧ pl.length ≤ 5 ∧ pl.all okC = true) ∧ Aside0 (Kd.C kAt wx tA tl.length tl ∧ tl.length ≤ 5 ∧ tl.all okA = true) ∧ Aside0 (Below wd.heap.size wd wx))
      case first =>
        refine start_ (n := 14) (S := fun w' => True) (ds := []) #[false, false, false, false, false, false, false, false, false, false, false, false, false, false] (by kernel_rfl) rfl rfl trivial (fun hHeld => ?_)
        refine with_tabW ck5Reg.tab5 ck5Reg.bits5 (fun HT_ HW_ => ?_)
        refine pure_ (i := 0) (N := some 28) (v := ?_) (a' := ?_) #[true, false, false, false, false, false, false, false, false, false, false, false, false, false] rfl rfl (any_of HT_.out (by kernel_rfl)) (fun _ _ _ h => h) (Or.inl ⟨by rfl, ?_⟩) ?_ ?_
        rotate_left
        · intro w'
          go_simp
          with_reducible rfl
        rotate_left
        · simp only [Act.put, List.setIfInBounds_toArray, List.set_cons_zero, List.set_cons_succ, i64_w, i32_w]
          rfl
        refine pure_ (i := 1) (N := some 29) (v := ?_) (a' := ?_) #[true, true, false, false, false, false, false, false, false, false, false, false, false, false] rfl rfl (any_of HT_.out (by kernel_rfl)) (fun _ _ _ h => h) (Or.inl ⟨by rfl, ?_⟩) ?_ ?_
        rotate_left
        · intro w'
          go_simp
          with_reducible rfl
        rotate_left
        · simp only [Act.put, List.setIfInBounds_toArray, List.set_cons_zero, List.set_cons_succ, i64_w, i32_w]
          rfl
        refine pure_ (i := 2) (N := some 30) (v := ?_) (a' := ?_) #[true, true, true, false, false, false, false, false, false, false, false, false, false, false] rfl rfl (any_of HT_.out (by kernel_rfl)) (fun _ _ _ h => h) (Or.inl ⟨by rfl, ?_⟩) ?_ ?_
        rotate_left
        · intro w'
          go_simp
          with_reducible rfl
        rotate_left
        · simp only [Act.put, List.setIfInBounds_toArray, List.set_cons_zero, List.set_cons_succ, i64_w, i32_w]
          rfl
        refine pure_ (i := 3) (N := some 31) (v := ?_) (a' := ?_) #[true, true, true, true, false, false, false, false, false, false, false, false, false, false] rfl rfl (any_of HT_.out (by kernel_rfl)) (fun _ _ _ h => h) (Or.inl ⟨by rfl, ?_⟩) ?_ ?_
        rotate_left
        · intro w'
          go_simp
          with_reducible rfl
        rotate_left
        · simp only [Act.put, List.setIfInBounds_toArray, List.set_cons_zero, List.set_cons_succ, i64_w, i32_w]
          rfl
        refine pure_ (i := 4) (N := some 32) (v := ?_) (a' := ?_) #[true, true, true, true, true, false, false, false, false, false, false, false, false, false] rfl rfl (any_of HT_.out (by kernel_rfl)) (fun _ _ _ h => h) (Or.inl ⟨by rfl, ?_⟩) ?_ ?_
        rotate_left
        · intro w'
          go_simp
          with_reducible rfl
        rotate_left
        · simp only [Act.put, List.setIfInBounds_toArray, List.set_cons_zero, List.set_cons_succ, i64_w, i32_w]
          rfl
        refine pure_ (i := 5) (N := some 33) (v := ?_) (a' := ?_) #[true, true, true, true, true, true, false, false, false, false, false, false, false, false] rfl rfl (any_of HT_.out (by kernel_rfl)) (fun _ _ _ h => h) (Or.inl ⟨by rfl, ?_⟩) ?_ ?_
        rotate_left
        · intro w'
          go_simp
          with_reducible rfl
        rotate_left
        · simp only [Act.put, List.setIfInBounds_toArray, List.set_cons_zero, List.set_cons_succ, i64_w, i32_w]
          rfl
        refine pure_ (i := 10) (N := some 38) (v := ?_) (a' := ?_) #[true, true, true, true, true, true, false, false, false, false, true, false, false, false] rfl rfl (any_of HT_.out (by kernel_rfl)) (fun _ _ _ h => h) (Or.inl ⟨by rfl, ?_⟩) ?_ ?_
        rotate_left
        · intro w'
          go_simp
          with_reducible rfl
        rotate_left
        · simp only [Act.put, List.setIfInBounds_toArray, List.set_cons_zero, List.set_cons_succ, i64_w, i32_w]
          rfl
        refine inv_at [6, 7, 8, 9, 11, 12, 13] (fun a0_ b a w' => ∃ (pA_ : Option Addr) (pm_ : Nat) (pl_ : List Co) (tA_ : Option Addr) (tm_ : Nat) (tl_ : List At) (g_ : Nat) (m7_ : Value) (m9_ : Value) (m11_ : Value) (m12_ : Value), a = putSel a0_ b [(6, 34, .agg #[.slice A0 l0.length c0, .slice A1 l1.length c1]), (7, 35, m7_), (8, 36, .agg #[.slice A2 l2.length c2, .slice A3 l3.length c3]), (9, 37, m9_), (11, 39, m11_), (12, 11, m12_)] ∧ (Below wd.heap.size wd w') ∧ (b 7 = true → Kd.C kCo w' pA_ pl_.length pl_ ∧ pl_.length ≤ 5 ∧ pl_.all okC = true) ∧ (b 9 = true → Kd.C kAt w' tA_ tl_.length tl_ ∧ tl_.length ≤ 5 ∧ tl_.all okA = true) ∧ (b 7 = true → b 12 = false → ∀ ad, pA_ = some ad → ad.block < w'.heap.size) ∧ (b 9 = true → b 12 = false → ∀ ad, tA_ = some ad → ad.block < w'.heap.size) ∧ (b 7 = true → b 12 = true → b 13 = false → ∀ ad, pA_ = some ad → ad.block ≠ g_) ∧ (b 9 = true → b 12 = true → b 13 = false → ∀ ad, tA_ = some ad → ad.block ≠ g_) ∧ (b 12 = true → b 13 = false → w'.heap[g_]? = some (.cells #[.int .i64 0, .int .i64 0, .int .i64 0, .int .i64 0, .int .i64 0, .int .i64 0, .slice none 0 0, .slice none 0 0, .slice none 0 0] 30 (0, 0))) ∧ (b 12 = true → wd.heap.size ≤ g_) ∧ (b 13 = true → w'.heap[g_]? = some (.cells #[.int .i64 (kk : Int), .int .i64 n, .int .i64 n, .int .i64 n, .int .i64 n, .int .i64 n, .slice pA_ pl_.length pm_, .slice tA_ tl_.length tm_, .slice Ab bb.length cb] 30 (0, 0))) ∧ (b 7 = true → (m7_ : Value) = .slice pA_ pl_.length pm_) ∧ (b 9 = true → (m9_ : Value) = .slice tA_ tl_.length tm_) ∧ (b 11 = true → (m11_ : Value) = .agg #[.int .i64 (kk : Int), .int .i64 n, .int .i64 n, .int .i64 n, .int .i64 n, .int .i64 n, .slice pA_ pl_.length pm_, .slice tA_ tl_.length tm_, .slice Ab bb.length cb]) ∧ (b 12 = true → (m12_ : Value) = .pointer (some ⟨g_, 0, none⟩))) HT_.out HW_.out (by kernel_rfl) (by kernel_rfl) ?_ ?_ ?_
        · exact ⟨none, 0, [], none, 0, [], 0, .bool false, .bool false, .bool false, .bool false, by simp only [putSel, Bool.false_eq_true, if_false], below_drew HW.out, fun h_ => absurd h_ (by decide), fun h_ => absurd h_ (by decide), fun h_ => absurd h_ (by decide), fun h_ => absurd h_ (by decide), fun h_ => absurd h_ (by decide), fun h_ => absurd h_ (by decide), fun h_ => absurd h_ (by decide), fun h_ => absurd h_ (by decide), fun h_ => absurd h_ (by decide), fun h_ => absurd h_ (by decide), fun h_ => absurd h_ (by decide), fun h_ => absurd h_ (by decide), fun h_ => absurd h_ (by decide)⟩
        · skip
          clear HW
          refine steps_cons ?_ ?_
          · rintro b a w' ⟨pA_, pm_, pl_, tA_, tm_, tl_, g_, m7_, m9_, m11_, m12_, ha, Q_HW, Q_HP, Q_HQ, Q_PL, Q_TL, Q_PN, Q_TN, Q_HZ, Q_HE, Q_HF, Q_X7_, Q_X9_, Q_X11_, Q_X12_⟩ hb_ hon hoff
            refine ⟨_, rfl, fun K hK => ?_⟩
            have e6 : a.tmps[6]? = some (.pointer (some ⟨w.heap.size, 0, none⟩)) := by rw [ha]; exact (putSel_off rfl).trans rfl
            replace ha := Aside0.mk ha
            have HW := Aside0.mk Q_HW
            have q0 := (blk_cell (blk_below HK.out HW.out) 0).trans (rfl : _ = some (Value.slice A0 l0.length c0))
            have q1 := (blk_cell (blk_below HK.out HW.out) 1).trans (rfl : _ = some (Value.slice A1 l1.length c1))
            refine value_ (w1 := w') (v := .agg #[.slice A0 l0.length c0, .slice A1 l1.length c1]) (by rfl) rfl ?_ ?_
            · go_simp
              (try simp only [i64_w])
              try rfl
            refine hK.out _ _ ⟨pA_, pm_, pl_, tA_, tm_, tl_, g_, m7_, m9_, m11_, m12_, (by rw [ha.out]; exact putSel_upk 0 hb_ rfl rfl rfl), Q_HW, fun h0_ => absurd ((hoff 7 (by kernel_rfl)).symm.trans h0_) (by decide), fun h0_ => absurd ((hoff 9 (by kernel_rfl)).symm.trans h0_) (by decide), fun h0_ _ => absurd ((hoff 7 (by kernel_rfl)).symm.trans h0_) (by decide), fun h0_ _ => absurd ((hoff 9 (by kernel_rfl)).symm.trans h0_) (by decide), fun h0_ _ _ => absurd ((hoff 7 (by kernel_rfl)).symm.trans h0_) (by decide), fun h0_ _ _ => absurd ((hoff 9 (by kernel_rfl)).symm.trans h0_) (by decide), Q_HZ, Q_HE, fun h0_ => absurd ((hoff 13 (by kernel_rfl)).symm.trans h0_) (by decide), fun h0_ => absurd ((hoff 7 (by kernel_rfl)).symm.trans h0_) (by decide), fun h0_ => absurd ((hoff 9 (by kernel_rfl)).symm.trans h0_) (by decide), fun h0_ => absurd ((hoff 11 (by kernel_rfl)).symm.trans h0_) (by decide), Q_X12_⟩
          refine steps_cons ?_ ?_
          · rintro b a w' ⟨pA_, pm_, pl_, tA_, tm_, tl_, g_, m7_, m9_, m11_, m12_, ha, Q_HW, Q_HP, Q_HQ, Q_PL, Q_TL, Q_PN, Q_TN, Q_HZ, Q_HE, Q_HF, Q_X7_, Q_X9_, Q_X11_, Q_X12_⟩ hb_ hon hoff
            refine ⟨_, rfl, fun K hK => ?_⟩
            have e34 : a.tmps[34]? = some (.agg #[.slice A0 l0.length c0, .slice A1 l1.length c1]) := by rw [ha]; exact putSel_on (e := (6, 34, .agg #[.slice A0 l0.length c0, .slice A1 l1.length c1])) 0 rfl rfl (hon 6 (by kernel_rfl)) rfl
            replace ha := Aside0.mk ha
            have HW := Aside0.mk Q_HW
            refine goes_ Tryd.func16 (by kernel_rfl) rfl #[.agg #[.slice A0 l0.length c0, .slice A1 l1.length c1]] (by rfl) rfl rfl (by simp only [List.map_toArray, List.map_cons, List.map_nil, Act.eval, Array.getD_eq_getD_getElem?, Option.getD_some, e34]) ?_
            refine (kpred_calls A0 c0 l0 A1 c1 l1 w' (Kd.C_below H0.out HW.out) K0.out (Kd.C_below H1.out HW.out) K1.out).mono ?_
            rintro e w2 ⟨D, mm, xx, rfl, hab, hC, h5, hall, hB⟩
            refine ⟨_, rfl, ?_⟩
            refine hK.out _ _ ⟨D, mm, xx, tA_, tm_, tl_, g_, (.slice D xx.length mm), m9_, m11_, m12_, (by rw [ha.out]; exact putSel_upk 1 hb_ rfl rfl rfl), below_step HW.out hB, fun _ => ⟨hC, h5, hall⟩, fun h0_ => absurd ((hoff 9 (by kernel_rfl)).symm.trans h0_) (by decide), fun _ _ => fun ad he => (hab ad he).2, fun h0_ _ => absurd ((hoff 9 (by kernel_rfl)).symm.trans h0_) (by decide), fun _ _ _ => fun ad he hE => absurd (hab ad he).1 (by rw [hE]; exact Nat.not_le.2 (blk_lt (Q_HZ (by assumption) (hoff 13 (by kernel_rfl))))), fun h0_ _ _ => absurd ((hoff 9 (by kernel_rfl)).symm.trans h0_) (by decide), fun h0_ h1_ => blk_below (Q_HZ h0_ h1_) hB, Q_HE, fun h0_ => absurd ((hoff 13 (by kernel_rfl)).symm.trans h0_) (by decide), fun _ => rfl, fun h0_ => absurd ((hoff 9 (by kernel_rfl)).symm.trans h0_) (by decide), fun h0_ => absurd ((hoff 11 (by kernel_rfl)).symm.trans h0_) (by decide), Q_X12_⟩
          refine steps_cons ?_ ?_
          · rintro b a w' ⟨pA_, pm_, pl_, tA_, tm_, tl_, g_, m7_, m9_, m11_, m12_, ha, Q_HW, Q_HP, Q_HQ, Q_PL, Q_TL, Q_PN, Q_TN, Q_HZ, Q_HE, Q_HF, Q_X7_, Q_X9_, Q_X11_, Q_X12_⟩ hb_ hon hoff
            refine ⟨_, rfl, fun K hK => ?_⟩
            have e7 : a.tmps[7]? = some (.pointer (some ⟨w.heap.size + 1, 0, none⟩)) := by rw [ha]; exact (putSel_off rfl).trans rfl
            replace ha := Aside0.mk ha
            have HW := Aside0.mk Q_HW
            have q0 := (blk_cell (blk_below HT.out HW.out) 0).trans (rfl : _ = some (Value.slice A2 l2.length c2))
            have q1 := (blk_cell (blk_below HT.out HW.out) 1).trans (rfl : _ = some (Value.slice A3 l3.length c3))
            refine value_ (w1 := w') (v := .agg #[.slice A2 l2.length c2, .slice A3 l3.length c3]) (by rfl) rfl ?_ ?_
            · go_simp
              (try simp only [i64_w])
              try rfl
            refine hK.out _ _ ⟨pA_, pm_, pl_, tA_, tm_, tl_, g_, m7_, m9_, m11_, m12_, (by rw [ha.out]; exact putSel_upk 2 hb_ rfl rfl rfl), Q_HW, Q_HP, fun h0_ => absurd ((hoff 9 (by kernel_rfl)).symm.trans h0_) (by decide), Q_PL, fun h0_ _ => absurd ((hoff 9 (by kernel_rfl)).symm.trans h0_) (by decide), Q_PN, fun h0_ _ _ => absurd ((hoff 9 (by kernel_rfl)).symm.trans h0_) (by decide), Q_HZ, Q_HE, fun h0_ => absurd ((hoff 13 (by kernel_rfl)).symm.trans h0_) (by decide), Q_X7_, fun h0_ => absurd ((hoff 9 (by kernel_rfl)).symm.trans h0_) (by decide), fun h0_ => absurd ((hoff 11 (by kernel_rfl)).symm.trans h0_) (by decide), Q_X12_⟩
          refine steps_cons ?_ ?_
          · rintro b a w' ⟨pA_, pm_, pl_, tA_, tm_, tl_, g_, m7_, m9_, m11_, m12_, ha, Q_HW, Q_HP, Q_HQ, Q_PL, Q_TL, Q_PN, Q_TN, Q_HZ, Q_HE, Q_HF, Q_X7_, Q_X9_, Q_X11_, Q_X12_⟩ hb_ hon hoff
            refine ⟨_, rfl, fun K hK => ?_⟩
            have e36 : a.tmps[36]? = some (.agg #[.slice A2 l2.length c2, .slice A3 l3.length c3]) := by rw [ha]; exact putSel_on (e := (8, 36, .agg #[.slice A2 l2.length c2, .slice A3 l3.length c3])) 2 rfl rfl (hon 8 (by kernel_rfl)) rfl
            replace ha := Aside0.mk ha
            have HW := Aside0.mk Q_HW
            have HP := Aside0.mk (Q_HP (hon 7 (by kernel_rfl)))
            refine goes_ Tryd.func17 (by kernel_rfl) rfl #[.agg #[.slice A2 l2.length c2, .slice A3 l3.length c3]] (by rfl) rfl rfl (by simp only [List.map_toArray, List.map_cons, List.map_nil, Act.eval, Array.getD_eq_getD_getElem?, Option.getD_some, e36]) ?_
            refine (ktup_calls A2 c2 l2 A3 c3 l3 w' (Kd.C_below H2.out HW.out) K2.out (Kd.C_below H3.out HW.out) K3.out).mono ?_
            rintro e w2 ⟨D, mm, xx, rfl, hab, hC, h5, hall, hB⟩
            refine ⟨_, rfl, ?_⟩
            refine hK.out _ _ ⟨pA_, pm_, pl_, D, mm, xx, g_, m7_, (.slice D xx.length mm), m11_, m12_, (by rw [ha.out]; exact putSel_upk 3 hb_ rfl rfl rfl), below_step HW.out hB, fun _ => ⟨Kd.C_below HP.out.1 hB, HP.out.2⟩, fun _ => ⟨hC, h5, hall⟩, fun h0_ h1_ => fun ad he => Nat.lt_of_lt_of_le ((Q_PL h0_ h1_) ad he) (below_size hB), fun _ _ => fun ad he => (hab ad he).2, Q_PN, fun _ _ _ => fun ad he hE => absurd (hab ad he).1 (by rw [hE]; exact Nat.not_le.2 (blk_lt (Q_HZ (by assumption) (hoff 13 (by kernel_rfl))))), fun h0_ h1_ => blk_below (Q_HZ h0_ h1_) hB, Q_HE, fun h0_ => absurd ((hoff 13 (by kernel_rfl)).symm.trans h0_) (by decide), Q_X7_, fun _ => rfl, fun h0_ => absurd ((hoff 11 (by kernel_rfl)).symm.trans h0_) (by decide), Q_X12_⟩
          refine steps_cons ?_ ?_
          · rintro b a w' ⟨pA_, pm_, pl_, tA_, tm_, tl_, g_, m7_, m9_, m11_, m12_, ha, Q_HW, Q_HP, Q_HQ, Q_PL, Q_TL, Q_PN, Q_TN, Q_HZ, Q_HE, Q_HF, Q_X7_, Q_X9_, Q_X11_, Q_X12_⟩ hb_ hon hoff
            refine ⟨_, rfl, fun K hK => ?_⟩
            have e28 : a.tmps[28]? = some (.int .i64 (kk : Int)) := by rw [ha]; exact (putSel_off rfl).trans rfl
            have e29 : a.tmps[29]? = some (.int .i64 n) := by rw [ha]; exact (putSel_off rfl).trans rfl
            have e30 : a.tmps[30]? = some (.int .i64 n) := by rw [ha]; exact (putSel_off rfl).trans rfl
            have e31 : a.tmps[31]? = some (.int .i64 n) := by rw [ha]; exact (putSel_off rfl).trans rfl
            have e32 : a.tmps[32]? = some (.int .i64 n) := by rw [ha]; exact (putSel_off rfl).trans rfl
            have e33 : a.tmps[33]? = some (.int .i64 n) := by rw [ha]; exact (putSel_off rfl).trans rfl
            have e35 : a.tmps[35]? = some (m7_) := by rw [ha]; exact putSel_on (e := (7, 35, m7_)) 1 rfl rfl (hon 7 (by kernel_rfl)) rfl
            rw [Q_X7_ (hon 7 (by kernel_rfl))] at e35
            have e37 : a.tmps[37]? = some (m9_) := by rw [ha]; exact putSel_on (e := (9, 37, m9_)) 3 rfl rfl (hon 9 (by kernel_rfl)) rfl
            rw [Q_X9_ (hon 9 (by kernel_rfl))] at e37
            have e38 : a.tmps[38]? = some (.slice Ab bb.length cb) := by rw [ha]; exact (putSel_off rfl).trans rfl
            replace ha := Aside0.mk ha
            have HW := Aside0.mk Q_HW
            have HP := Aside0.mk (Q_HP (hon 7 (by kernel_rfl)))
            have HQ := Aside0.mk (Q_HQ (hon 9 (by kernel_rfl)))
            refine value_ (w1 := w') (v := .agg #[.int .i64 (kk : Int), .int .i64 n, .int .i64 n, .int .i64 n, .int .i64 n, .int .i64 n, .slice pA_ pl_.length pm_, .slice tA_ tl_.length tm_, .slice Ab bb.length cb]) (by rfl) rfl ?_ ?_
            · go_simp
              (try simp only [i64_w])
              try rfl
            refine hK.out _ _ ⟨pA_, pm_, pl_, tA_, tm_, tl_, g_, m7_, m9_, (.agg #[.int .i64 (kk : Int), .int .i64 n, .int .i64 n, .int .i64 n, .int .i64 n, .int .i64 n, .slice pA_ pl_.length pm_, .slice tA_ tl_.length tm_, .slice Ab bb.length cb]), m12_, (by rw [ha.out]; exact putSel_upk 4 hb_ rfl rfl rfl), Q_HW, Q_HP, Q_HQ, Q_PL, Q_TL, Q_PN, Q_TN, Q_HZ, Q_HE, fun h0_ => absurd ((hoff 13 (by kernel_rfl)).symm.trans h0_) (by decide), Q_X7_, Q_X9_, fun _ => rfl, Q_X12_⟩
          refine steps_cons ?_ ?_
          · rintro b a w' ⟨pA_, pm_, pl_, tA_, tm_, tl_, g_, m7_, m9_, m11_, m12_, ha, Q_HW, Q_HP, Q_HQ, Q_PL, Q_TL, Q_PN, Q_TN, Q_HZ, Q_HE, Q_HF, Q_X7_, Q_X9_, Q_X11_, Q_X12_⟩ hb_ hon hoff
            refine ⟨_, rfl, fun K hK => ?_⟩
            replace ha := Aside0.mk ha
            have HW := Aside0.mk Q_HW
            refine value_ (w1 := w'.alloc (.cells #[.int .i64 0, .int .i64 0, .int .i64 0, .int .i64 0, .int .i64 0, .int .i64 0, .slice none 0 0, .slice none 0 0, .slice none 0 0] 30)) (v := .pointer (some ⟨w'.heap.size, 0, none⟩)) (by rfl) rfl (by go_simp) ?_
            refine hK.out _ _ ⟨pA_, pm_, pl_, tA_, tm_, tl_, w'.heap.size, m7_, m9_, m11_, (.pointer (some ⟨w'.heap.size, 0, none⟩)), (by rw [ha.out]; exact putSel_upk 5 hb_ rfl rfl rfl), below_alloc HW.out _, fun h0_ => ⟨Kd.C_below (Q_HP h0_).1 (below_alloc (Below.refl _ _) _), (Q_HP h0_).2⟩, fun h0_ => ⟨Kd.C_below (Q_HQ h0_).1 (below_alloc (Below.refl _ _) _), (Q_HQ h0_).2⟩, fun _ h1_ => absurd ((up_self b 12).symm.trans h1_) (by decide), fun _ h1_ => absurd ((up_self b 12).symm.trans h1_) (by decide), fun _ _ _ => fun ad he => Nat.ne_of_lt (Q_PL (by assumption) hb_ ad he), fun _ _ _ => fun ad he => Nat.ne_of_lt (Q_TL (by assumption) hb_ ad he), fun _ _ => blk_new w' _, fun _ => HW.out.size, fun h0_ => absurd ((hoff 13 (by kernel_rfl)).symm.trans h0_) (by decide), Q_X7_, Q_X9_, Q_X11_, fun _ => rfl⟩
          refine steps_cons ?_ ?_
          · rintro b a w' ⟨pA_, pm_, pl_, tA_, tm_, tl_, g_, m7_, m9_, m11_, m12_, ha, Q_HW, Q_HP, Q_HQ, Q_PL, Q_TL, Q_PN, Q_TN, Q_HZ, Q_HE, Q_HF, Q_X7_, Q_X9_, Q_X11_, Q_X12_⟩ hb_ hon hoff
            refine ⟨_, rfl, fun K hK => ?_⟩
            have e11 : a.tmps[11]? = some (m12_) := by rw [ha]; exact putSel_on (e := (12, 11, m12_)) 5 rfl rfl (hon 12 (by kernel_rfl)) rfl
            rw [Q_X12_ (hon 12 (by kernel_rfl))] at e11
            have e39 : a.tmps[39]? = some (m11_) := by rw [ha]; exact putSel_on (e := (11, 39, m11_)) 4 rfl rfl (hon 11 (by kernel_rfl)) rfl
            rw [Q_X11_ (hon 11 (by kernel_rfl))] at e39
            replace ha := Aside0.mk ha
            have HW := Aside0.mk Q_HW
            have HP := Aside0.mk (Q_HP (hon 7 (by kernel_rfl)))
            have HQ := Aside0.mk (Q_HQ (hon 9 (by kernel_rfl)))
            have PN := Aside0.mk (Q_PN (hon 7 (by kernel_rfl)) (hon 12 (by kernel_rfl)) hb_)
            have TN := Aside0.mk (Q_TN (hon 9 (by kernel_rfl)) (hon 12 (by kernel_rfl)) hb_)
            have HZ := Aside0.mk (Q_HZ (hon 12 (by kernel_rfl)) hb_)
            have HE := Aside0.mk (Q_HE (hon 12 (by kernel_rfl)))
            have z0 := (blk_cell HZ.out 0).trans (rfl : _ = some (Value.int .i64 0))
            have z1 := (blk_cell HZ.out 1).trans (rfl : _ = some (Value.int .i64 0))
            have z2 := (blk_cell HZ.out 2).trans (rfl : _ = some (Value.int .i64 0))
            have z3 := (blk_cell HZ.out 3).trans (rfl : _ = some (Value.int .i64 0))
            have z4 := (blk_cell HZ.out 4).trans (rfl : _ = some (Value.int .i64 0))
            have z5 := (blk_cell HZ.out 5).trans (rfl : _ = some (Value.int .i64 0))
            have z6 := (blk_cell HZ.out 6).trans (rfl : _ = some (Value.slice none 0 0))
            have z7 := (blk_cell HZ.out 7).trans (rfl : _ = some (Value.slice none 0 0))
            have z8 := (blk_cell HZ.out 8).trans (rfl : _ = some (Value.slice none 0 0))
            have f0 := blk_frozen HZ.out 0
            have f1 := blk_frozen HZ.out 1
            have f2 := blk_frozen HZ.out 2
            have f3 := blk_frozen HZ.out 3
            have f4 := blk_frozen HZ.out 4
            have f5 := blk_frozen HZ.out 5
            have f6 := blk_frozen HZ.out 6
            have f7 := blk_frozen HZ.out 7
            have f8 := blk_frozen HZ.out 8
            have hl := blk_lt HZ.out
            refine skip_ (w1 := (((((((((w'.setCell ⟨g_, 0, none⟩ (Value.int .i64 (kk : Int))).setCell ⟨g_, 1, none⟩ (Value.int .i64 n)).setCell ⟨g_, 2, none⟩ (Value.int .i64 n)).setCell ⟨g_, 3, none⟩ (Value.int .i64 n)).setCell ⟨g_, 4, none⟩ (Value.int .i64 n)).setCell ⟨g_, 5, none⟩ (Value.int .i64 n)).setCell ⟨g_, 6, none⟩ (Value.slice pA_ pl_.length pm_)).setCell ⟨g_, 7, none⟩ (Value.slice tA_ tl_.length tm_)).setCell ⟨g_, 8, none⟩ (Value.slice Ab bb.length cb))) (by rfl) rfl (by go_simp) ?_
            refine hK.out _ _ ⟨pA_, pm_, pl_, tA_, tm_, tl_, g_, m7_, m9_, m11_, m12_, (by rw [ha.out]; exact putSel_none (v := undef) rfl), (below_set (below_set (below_set (below_set (below_set (below_set (below_set (below_set (below_set HW.out HE.out) HE.out) HE.out) HE.out) HE.out) HE.out) HE.out) HE.out) HE.out), fun _ => ⟨C_sets (fun _ _ _ _ h => h) PN.out _ _ _ _ _ _ _ _ _ HP.out.1, HP.out.2⟩, fun _ => ⟨C_sets (fun _ _ _ _ h => h) TN.out _ _ _ _ _ _ _ _ _ HQ.out.1, HQ.out.2⟩, fun _ h1_ => absurd ((hon 12 (by kernel_rfl)).symm.trans h1_) (by decide), fun _ h1_ => absurd ((hon 12 (by kernel_rfl)).symm.trans h1_) (by decide), fun _ _ h2_ => absurd ((up_self b 13).symm.trans h2_) (by decide), fun _ _ h2_ => absurd ((up_self b 13).symm.trans h2_) (by decide), fun _ h1_ => absurd ((up_self b 13).symm.trans h1_) (by decide), Q_HE, fun _ => (blk_put (blk_put (blk_put (blk_put (blk_put (blk_put (blk_put (blk_put (blk_put HZ.out 0 (.int .i64 (kk : Int)) rfl) 1 (.int .i64 n) rfl) 2 (.int .i64 n) rfl) 3 (.int .i64 n) rfl) 4 (.int .i64 n) rfl) 5 (.int .i64 n) rfl) 6 (.slice pA_ pl_.length pm_) rfl) 7 (.slice tA_ tl_.length tm_) rfl) 8 (.slice Ab bb.length cb) rfl), Q_X7_, Q_X9_, Q_X11_, Q_X12_⟩
          exact steps_nil
        · rintro b a w' hall ⟨pA_, pm_, pl_, tA_, tm_, tl_, g_, m7_, m9_, m11_, m12_, ha, Q_HW, Q_HP, Q_HQ, Q_PL, Q_TL, Q_PN, Q_TN, Q_HZ, Q_HE, Q_HF, Q_X7_, Q_X9_, Q_X11_, Q_X12_⟩
          clear HW
          have hb6_ := hall 6 (by kernel_rfl)
          have hb7_ := hall 7 (by kernel_rfl)
          have hb8_ := hall 8 (by kernel_rfl)
          have hb9_ := hall 9 (by kernel_rfl)
          have hb11_ := hall 11 (by kernel_rfl)
          have hb12_ := hall 12 (by kernel_rfl)
          have hb13_ := hall 13 (by kernel_rfl)
          subst ha
          obtain rfl := Q_X7_ hb7_
          obtain rfl := Q_X9_ hb9_
          obtain rfl := Q_X11_ hb11_
          obtain rfl := Q_X12_ hb12_
          simp only [putSel, hb6_, hb7_, hb8_, hb9_, hb11_, hb12_, hb13_, if_true, Act.put, List.setIfInBounds_toArray, List.set_cons_zero, List.set_cons_succ]
          have HW := Aside0.mk Q_HW
          clear Q_HW
          have HP := Aside0.mk (Q_HP hb7_)
          clear Q_HP
          have HQ := Aside0.mk (Q_HQ hb9_)
          clear Q_HQ
          clear Q_PL
          clear Q_TL
          clear Q_PN
          clear Q_TN
          clear Q_HZ
          have HE := Aside0.mk (Q_HE hb12_)
          clear Q_HE
          have HF := Aside0.mk (Q_HF hb13_)
          clear Q_HF
          clear hall hb6_ hb7_ hb8_ hb9_ hb11_ hb12_ hb13_
          go_wp2
          go_meet
          case rel =>
            refine ⟨_, _, _, _, _, _, _, ?_, HF, HP, HQ, HW⟩
            rfl
      case rest =>
        obtain ⟨g, pA, pm, pl, tA, tm, tl, rfl, HF, HP, HQ, HW5⟩ := hcut
        clear HW
        have hbl : bb.length ≤ 255 := by rw [HLT.out]; omega
        have hfit : Fit ⟨(kk : Int), n, n, n, n, n, pl, tl, bb⟩ := ⟨⟨by show (1 : Int) ≤ kk; omega, by show (kk : Int) ≤ 9; omega⟩, HP.out.2, HQ.out.2, hbl⟩
        obtain ⟨z, hz⟩ : ∃ z, askd ⟨(kk : Int), n, n, n, n, n, pl, tl, bb⟩ = z := ⟨_, rfl⟩
        obtain ⟨L, hL⟩ : ∃ L, (oB z).length = L := ⟨_, rfl⟩
        have hL44 : 44 ≤ L := by rw [← hL, ← hz]; exact oB_len hfit
        have HL9 : Hid (kk = 9 → L = 44 + bb.length) := Lib.hid (fun e => by rw [← hL, ← hz]; exact oB_nine hfit (by show (kk : Int) = 9; omega))
        obtain ⟨sb, hsb⟩ : ∃ sb, rightD ⟨(kk : Int), n, n, n, n, n, pl, tl, bb⟩ = sb := ⟨_, rfl⟩
        have HS := Lib.hid (show sameD ⟨(kk : Int), n, n, n, n, n, pl, tl, bb⟩ z = sb by rw [← hz, ← hsb]; exact hfit.ops)
        have HRT := Lib.hid hsb
        have HLo := Aside0.mk (⟨HP.out.1, HQ.out.1, Kd.C_below HCb.out HW5.out⟩ : Lies _ ⟨(kk : Int), n, n, n, n, n, pl, tl, bb⟩ pA tA Ab)
        have HAK : Hid (∀ W, Lies W ⟨(kk : Int), n, n, n, n, n, pl, tl, bb⟩ pA tA Ab → Calls Tryd.prog 18 #[oW ⟨(kk : Int), n, n, n, n, n, pl, tl, bb⟩ pA pm tA tm Ab cb] W fun e w' => ∃ B6 n6 B7 n7 B8 n8, e = .returned (oW z B6 n6 B7 n7 B8 n8) ∧ Lies w' z B6 B7 B8 ∧ Below W.heap.size W w') := Lib.hid (fun W h => by rw [← hz]; exact asked_any _ _ _ _ _ _ _ W h)
        have HEN : Hid (∀ W B6 n6 B7 n7 B8 n8, Lies W z B6 B7 B8 → Calls Tryd.prog 14 #[oW z B6 n6 B7 n7 B8 n8] W fun e w' => ∃ ad cR, e = .returned (.tuple #[.slice (some ad) L cR, .nilIface]) ∧ w'.cell? (ad.add 0) = some (.int .u8 (kk : Int)) ∧ Below W.heap.size W w') := Lib.hid (fun W B6 n6 B7 n7 B8 n8 h => enc_askd _ hfit HBT.out z hz L hL B6 n6 B7 n7 B8 n8 W h)
        clear hz hL hsb hfit HP HQ
        obtain ⟨zk, zc, zq, zh, za, zt, zp, zs, zr⟩ := z
        have hnq : (sb != sb) = false := by cases sb <;> rfl
        have q0 := blk_cell HF.out 0
        have q1 := blk_cell HF.out 1
        have q2 := blk_cell HF.out 2
        have q3 := blk_cell HF.out 3
        have q4 := blk_cell HF.out 4
        have q5 := blk_cell HF.out 5
        have q6 := blk_cell HF.out 6
        have q7 := blk_cell HF.out 7
        have q8 := blk_cell HF.out 8
        have hlg := blk_lt HF.out
        go_upto_region 10 with (first | (go_at_call 18; refine (HAK.out _ HLo.out).mono ?_; rintro e w2 ⟨B6, n6, B7, n7, B8, n8, rfl, hLz, hB⟩; have HLz := Aside0.mk (Lies.below hLz (below_alloc (Below.refl w2.heap.size w2) (.cells #[.int .i64 zk, .int .i64 zc, .int .i64 zq, .int .i64 zh, .int .i64 za, .int .i64 zt, .slice B6 zp.length n6, .slice B7 zs.length n7, .slice B8 zr.length n8] 30))); replace HF := Aside0.mk (blk_alloc (blk_below HF.out hB) (.cells #[.int .i64 zk, .int .i64 zc, .int .i64 zq, .int .i64 zh, .int .i64 za, .int .i64 zt, .slice B6 zp.length n6, .slice B7 zs.length n7, .slice B8 zr.length n8] 30)); have HZ := Aside0.mk (blk_new w2 (.cells #[.int .i64 zk, .int .i64 zc, .int .i64 zq, .int .i64 zh, .int .i64 za, .int .i64 zt, .slice B6 zp.length n6, .slice B7 zs.length n7, .slice B8 zr.length n8] 30)); replace HLo := Aside0.mk (Lies.below HLo.out (below_alloc hB (.cells #[.int .i64 zk, .int .i64 zc, .int .i64 zq, .int .i64 zh, .int .i64 za, .int .i64 zt, .slice B6 zp.length n6, .slice B7 zs.length n7, .slice B8 zr.length n8] 30))); replace HW5 := Aside0.mk (below_alloc (below_step HW5.out hB) (.cells #[.int .i64 zk, .int .i64 zc, .int .i64 zq, .int .i64 zh, .int .i64 za, .int .i64 zt, .slice B6 zp.length n6, .slice B7 zs.length n7, .slice B8 zr.length n8] 30)); clear hB hLz) | (go_at_call 14; refine (HEN.out _ B6 n6 B7 n7 B8 n8 HLz.out).mono ?_; rintro e w3 ⟨ad, cR, rfl, hcell0, hB⟩; have hcell : w3.cell? ad = some (.int .u8 (kk : Int)) := hcell0; clear hcell0; replace HF := Aside0.mk (blk_below HF.out hB); replace HZ := Aside0.mk (blk_below HZ.out hB); replace HLo := Aside0.mk (Lies.below HLo.out hB); replace HLz := Aside0.mk (Lies.below HLz.out hB); replace HW5 := Aside0.mk (below_step HW5.out hB); clear hB))
        clear q0 q1 q2 q3 q4 q5 q6 q7 q8 hlg hcell
        generalize w2.heap.size = g2 at *
        generalize w3 = wf at *
        have HW := Aside0.mk (Below.refl wf.heap.size wf)
        go_cut [67] from 62 to 67 (fun v wx => v = .bool false ∧ Aside0 (Below wd.heap.size wd wx))
        case first =>
          refine start_ (n := 6) (S := fun w' => True) (ds := []) #[false, false, false, false, false, false] (by kernel_rfl) rfl rfl trivial (fun hHeld => ?_)
          refine with_tabW ck10Reg.tab10 ck10Reg.bits10 (fun HT_ HW_ => ?_)
          refine inv_at [0, 1, 2, 3, 4, 5] (fun a0_ b a w' => a = putSel a0_ b [(0, 62, .agg #[.int .i64 (kk : Int), .int .i64 n, .int .i64 n, .int .i64 n, .int .i64 n, .int .i64 n, .slice pA pl.length pm, .slice tA tl.length tm, .slice Ab bb.length cb]), (1, 63, .agg #[.int .i64 zk, .int .i64 zc, .int .i64 zq, .int .i64 zh, .int .i64 za, .int .i64 zt, .slice B6 zp.length n6, .slice B7 zs.length n7, .slice B8 zr.length n8]), (2, 64, .bool sb), (3, 65, .agg #[.int .i64 (kk : Int), .int .i64 n, .int .i64 n, .int .i64 n, .int .i64 n, .int .i64 n, .slice pA pl.length pm, .slice tA tl.length tm, .slice Ab bb.length cb]), (4, 66, .bool sb), (5, 67, .bool false)] ∧ (Below wf.heap.size wf w')) HT_.out HW_.out (by kernel_rfl) (by kernel_rfl) ?_ ?_ ?_
          · exact ⟨by simp only [putSel, Bool.false_eq_true, if_false], below_drew HW.out⟩
          · skip
            clear HW
            refine steps_cons ?_ ?_
            · rintro b a w' ⟨ha, Q_HW⟩ hb_ hon hoff
              refine ⟨_, rfl, fun K hK => ?_⟩
              have e11 : a.tmps[11]? = some (.pointer (some ⟨g, 0, none⟩)) := by rw [ha]; exact (putSel_off rfl).trans rfl
              replace ha := Aside0.mk ha
              have HW := Aside0.mk Q_HW
              have q0 := (blk_cell (blk_below HF.out HW.out) 0).trans (rfl : _ = some (Value.int .i64 (kk : Int)))
              have q1 := (blk_cell (blk_below HF.out HW.out) 1).trans (rfl : _ = some (Value.int .i64 n))
              have q2 := (blk_cell (blk_below HF.out HW.out) 2).trans (rfl : _ = some (Value.int .i64 n))
              have q3 := (blk_cell (blk_below HF.out HW.out) 3).trans (rfl : _ = some (Value.int .i64 n))
              have q4 := (blk_cell (blk_below HF.out HW.out) 4).trans (rfl : _ = some (Value.int .i64 n))
              have q5 := (blk_cell (blk_below HF.out HW.out) 5).trans (rfl : _ = some (Value.int .i64 n))
              have q6 := (blk_cell (blk_below HF.out HW.out) 6).trans (rfl : _ = some (Value.slice pA pl.length pm))
              have q7 := (blk_cell (blk_below HF.out HW.out) 7).trans (rfl : _ = some (Value.slice tA tl.length tm))
              have q8 := (blk_cell (blk_below HF.out HW.out) 8).trans (rfl : _ = some (Value.slice Ab bb.length cb))
              refine value_ (w1 := w') (v := .agg #[.int .i64 (kk : Int), .int .i64 n, .int .i64 n, .int .i64 n, .int .i64 n, .int .i64 n, .slice pA pl.length pm, .slice tA tl.length tm, .slice Ab bb.length cb]) (by rfl) rfl ?_ ?_
              · go_simp
                (try simp only [i64_w])
                try rfl
              refine hK.out _ _ ⟨(by rw [ha.out]; exact putSel_upk 0 hb_ rfl rfl rfl), Q_HW⟩
            refine steps_cons ?_ ?_
            · rintro b a w' ⟨ha, Q_HW⟩ hb_ hon hoff
              refine ⟨_, rfl, fun K hK => ?_⟩
              have e12 : a.tmps[12]? = some (.pointer (some ⟨g2, 0, none⟩)) := by rw [ha]; exact (putSel_off rfl).trans rfl
              replace ha := Aside0.mk ha
              have HW := Aside0.mk Q_HW
              have q0 := (blk_cell (blk_below HZ.out HW.out) 0).trans (rfl : _ = some (Value.int .i64 zk))
              have q1 := (blk_cell (blk_below HZ.out HW.out) 1).trans (rfl : _ = some (Value.int .i64 zc))
              have q2 := (blk_cell (blk_below HZ.out HW.out) 2).trans (rfl : _ = some (Value.int .i64 zq))
              have q3 := (blk_cell (blk_below HZ.out HW.out) 3).trans (rfl : _ = some (Value.int .i64 zh))
              have q4 := (blk_cell (blk_below HZ.out HW.out) 4).trans (rfl : _ = some (Value.int .i64 za))
              have q5 := (blk_cell (blk_below HZ.out HW.out) 5).trans (rfl : _ = some (Value.int .i64 zt))
              have q6 := (blk_cell (blk_below HZ.out HW.out) 6).trans (rfl : _ = some (Value.slice B6 zp.length n6))
              have q7 := (blk_cell (blk_below HZ.out HW.out) 7).trans (rfl : _ = some (Value.slice B7 zs.length n7))
              have q8 := (blk_cell (blk_below HZ.out HW.out) 8).trans (rfl : _ = some (Value.slice B8 zr.length n8))
              refine value_ (w1 := w') (v := .agg #[.int .i64 zk, .int .i64 zc, .int .i64 zq, .int .i64 zh, .int .i64 za, .int .i64 zt, .slice B6 zp.length n6, .slice B7 zs.length n7, .slice B8 zr.length n8]) (by rfl) rfl ?_ ?_
              · go_simp
                (try simp only [i64_w])
                try rfl
              refine hK.out _ _ ⟨(by rw [ha.out]; exact putSel_upk 1 hb_ rfl rfl rfl), Q_HW⟩
            refine steps_cons ?_ ?_
            · rintro b a w' ⟨ha, Q_HW⟩ hb_ hon hoff
              refine ⟨_, rfl, fun K hK => ?_⟩
              have e62 : a.tmps[62]? = some (.agg #[.int .i64 (kk : Int), .int .i64 n, .int .i64 n, .int .i64 n, .int .i64 n, .int .i64 n, .slice pA pl.length pm, .slice tA tl.length tm, .slice Ab bb.length cb]) := by rw [ha]; exact putSel_on (e := (0, 62, .agg #[.int .i64 (kk : Int), .int .i64 n, .int .i64 n, .int .i64 n, .int .i64 n, .int .i64 n, .slice pA pl.length pm, .slice tA tl.length tm, .slice Ab bb.length cb])) 0 rfl rfl (hon 0 (by kernel_rfl)) rfl
              have e63 : a.tmps[63]? = some (.agg #[.int .i64 zk, .int .i64 zc, .int .i64 zq, .int .i64 zh, .int .i64 za, .int .i64 zt, .slice B6 zp.length n6, .slice B7 zs.length n7, .slice B8 zr.length n8]) := by rw [ha]; exact putSel_on (e := (1, 63, .agg #[.int .i64 zk, .int .i64 zc, .int .i64 zq, .int .i64 zh, .int .i64 za, .int .i64 zt, .slice B6 zp.length n6, .slice B7 zs.length n7, .slice B8 zr.length n8])) 1 rfl rfl (hon 1 (by kernel_rfl)) rfl
              replace ha := Aside0.mk ha
              have HW := Aside0.mk Q_HW
              refine goes_ Tryd.func19 (by kernel_rfl) rfl #[.agg #[.int .i64 (kk : Int), .int .i64 n, .int .i64 n, .int .i64 n, .int .i64 n, .int .i64 n, .slice pA pl.length pm, .slice tA tl.length tm, .slice Ab bb.length cb], .agg #[.int .i64 zk, .int .i64 zc, .int .i64 zq, .int .i64 zh, .int .i64 za, .int .i64 zt, .slice B6 zp.length n6, .slice B7 zs.length n7, .slice B8 zr.length n8]] (by rfl) rfl rfl (by simp only [List.map_toArray, List.map_cons, List.map_nil, Act.eval, Array.getD_eq_getD_getElem?, Option.getD_some, e62, e63]) ?_
              refine (ops_calls ⟨(kk : Int), n, n, n, n, n, pl, tl, bb⟩ pA pm tA tm Ab cb ⟨zk, zc, zq, zh, za, zt, zp, zs, zr⟩ B6 n6 B7 n7 B8 n8 w' (Lies.below HLo.out HW.out) (Lies.below HLz.out HW.out)).mono ?_
              rintro e w2 ⟨he, hB⟩
              rw [HS.out] at he
              subst he
              refine ⟨_, rfl, ?_⟩
              refine hK.out _ _ ⟨(by rw [ha.out]; exact putSel_upk 2 hb_ rfl rfl rfl), below_step HW.out hB⟩
            refine steps_cons ?_ ?_
            · rintro b a w' ⟨ha, Q_HW⟩ hb_ hon hoff
              refine ⟨_, rfl, fun K hK => ?_⟩
              have e11 : a.tmps[11]? = some (.pointer (some ⟨g, 0, none⟩)) := by rw [ha]; exact (putSel_off rfl).trans rfl
              replace ha := Aside0.mk ha
              have HW := Aside0.mk Q_HW
              have q0 := (blk_cell (blk_below HF.out HW.out) 0).trans (rfl : _ = some (Value.int .i64 (kk : Int)))
              have q1 := (blk_cell (blk_below HF.out HW.out) 1).trans (rfl : _ = some (Value.int .i64 n))
              have q2 := (blk_cell (blk_below HF.out HW.out) 2).trans (rfl : _ = some (Value.int .i64 n))
              have q3 := (blk_cell (blk_below HF.out HW.out) 3).trans (rfl : _ = some (Value.int .i64 n))
              have q4 := (blk_cell (blk_below HF.out HW.out) 4).trans (rfl : _ = some (Value.int .i64 n))
              have q5 := (blk_cell (blk_below HF.out HW.out) 5).trans (rfl : _ = some (Value.int .i64 n))
              have q6 := (blk_cell (blk_below HF.out HW.out) 6).trans (rfl : _ = some (Value.slice pA pl.length pm))
              have q7 := (blk_cell (blk_below HF.out HW.out) 7).trans (rfl : _ = some (Value.slice tA tl.length tm))
              have q8 := (blk_cell (blk_below HF.out HW.out) 8).trans (rfl : _ = some (Value.slice Ab bb.length cb))
              refine value_ (w1 := w') (v := .agg #[.int .i64 (kk : Int), .int .i64 n, .int .i64 n, .int .i64 n, .int .i64 n, .int .i64 n, .slice pA pl.length pm, .slice tA tl.length tm, .slice Ab bb.length cb]) (by rfl) rfl ?_ ?_
              · go_simp
                (try simp only [i64_w])
                try rfl
              refine hK.out _ _ ⟨(by rw [ha.out]; exact putSel_upk 3 hb_ rfl rfl rfl), Q_HW⟩
            refine steps_cons ?_ ?_
            · rintro b a w' ⟨ha, Q_HW⟩ hb_ hon hoff
              refine ⟨_, rfl, fun K hK => ?_⟩
              have e65 : a.tmps[65]? = some (.agg #[.int .i64 (kk : Int), .int .i64 n, .int .i64 n, .int .i64 n, .int .i64 n, .int .i64 n, .slice pA pl.length pm, .slice tA tl.length tm, .slice Ab bb.length cb]) := by rw [ha]; exact putSel_on (e := (3, 65, .agg #[.int .i64 (kk : Int), .int .i64 n, .int .i64 n, .int .i64 n, .int .i64 n, .int .i64 n, .slice pA pl.length pm, .slice tA tl.length tm, .slice Ab bb.length cb])) 3 rfl rfl (hon 3 (by kernel_rfl)) rfl
              replace ha := Aside0.mk ha
              have HW := Aside0.mk Q_HW
              refine goes_ Tryd.func20 (by kernel_rfl) rfl #[.agg #[.int .i64 (kk : Int), .int .i64 n, .int .i64 n, .int .i64 n, .int .i64 n, .int .i64 n, .slice pA pl.length pm, .slice tA tl.length tm, .slice Ab bb.length cb]] (by rfl) rfl rfl (by simp only [List.map_toArray, List.map_cons, List.map_nil, Act.eval, Array.getD_eq_getD_getElem?, Option.getD_some, e65]) ?_
              refine (right_calls ⟨(kk : Int), n, n, n, n, n, pl, tl, bb⟩ pA pm tA tm Ab cb w' (Lies.below HLo.out HW.out) HBT.out).mono ?_
              rintro e w2 ⟨he, hB⟩
              rw [HRT.out] at he
              subst he
              refine ⟨_, rfl, ?_⟩
              refine hK.out _ _ ⟨(by rw [ha.out]; exact putSel_upk 4 hb_ rfl rfl rfl), below_step HW.out hB⟩
            refine steps_cons ?_ ?_
            · rintro b a w' ⟨ha, Q_HW⟩ hb_ hon hoff
              refine ⟨_, rfl, fun K hK => ?_⟩
              have e64 : a.tmps[64]? = some (.bool sb) := by rw [ha]; exact putSel_on (e := (2, 64, .bool sb)) 2 rfl rfl (hon 2 (by kernel_rfl)) rfl
              have e66 : a.tmps[66]? = some (.bool sb) := by rw [ha]; exact putSel_on (e := (4, 66, .bool sb)) 4 rfl rfl (hon 4 (by kernel_rfl)) rfl
              replace ha := Aside0.mk ha
              have HW := Aside0.mk Q_HW
              refine value_ (w1 := w') (v := .bool false) (by rfl) rfl ?_ ?_
              · go_simp
                (try simp only [i64_w])
                try rfl
              refine hK.out _ _ ⟨(by rw [ha.out]; exact putSel_upk 5 hb_ rfl rfl rfl), Q_HW⟩
            exact steps_nil
          · rintro b a w' hall ⟨ha, Q_HW⟩
            clear HW
            have hb0_ := hall 0 (by kernel_rfl)
            have hb1_ := hall 1 (by kernel_rfl)
            have hb2_ := hall 2 (by kernel_rfl)
            have hb3_ := hall 3 (by kernel_rfl)
            have hb4_ := hall 4 (by kernel_rfl)
            have hb5_ := hall 5 (by kernel_rfl)
            subst ha
            simp only [putSel, hb0_, hb1_, hb2_, hb3_, hb4_, hb5_, if_true, Act.put, List.setIfInBounds_toArray, List.set_cons_zero, List.set_cons_succ]
            have HW := Aside0.mk Q_HW
            clear Q_HW
            clear hall hb0_ hb1_ hb2_ hb3_ hb4_ hb5_
            go_wp2
            go_meet
            case rel => exact ⟨rfl, ⟨below_step HW5.out HW.out⟩⟩
        case rest =>
          obtain ⟨rfl, HWn⟩ := hcut
          by_cases h9 : kk = 9
          · have hLL := HL9.out h9
            subst hLL h9
            go_wp2
            go_roundw
            case rel => exact ⟨9 + 1, by omega, by omega, by go_num, HWn⟩
            case measure => simp [intOf]
          · have h9b : ((kk : Int) == 9) = false := by simp; omega
            go_wp2
            go_roundw
            case rel => exact ⟨kk + 1, by omega, by omega, by go_num, HWn⟩
            case measure => simp [intOf]; omega
    · obtain rfl : kk = 10 := by omega
      have hdec : decide (((10 : Nat) : Int) ≤ 9) = false := by decide
      have hz1 : ∀ W : World, (Instr.makeSlice 22 (.int .i64 256) (.int .i64 256)).run Tryd.prog W = .ok (.slice (some ⟨W.heap.size, 0, none⟩) 256 256) (W.alloc (.cells (zs8 256) 5)) := made_zs8 256 (by omega)
      have n1 : (wr.alloc (.cells (zs8 256) 5)).heap.size = wr.heap.size + 1 := by simp
      have n2 : ((wr.alloc (.cells (zs8 256) 5)).alloc (.cells #[.int .i64 9, .int .i64 0, .int .i64 0, .int .i64 0, .int .i64 0, .int .i64 0, .slice none 0 0, .slice none 0 0, .slice (some ⟨wr.heap.size, 0, none⟩) 256 256] 30)).heap.size = wr.heap.size + 1 + 1 := by simp
      have HLg := Aside0.mk (blk_alloc (blk_alloc (blk_alloc (blk_new wr (.cells (zs8 256) 5)) (.cells #[.int .i64 9, .int .i64 0, .int .i64 0, .int .i64 0, .int .i64 0, .int .i64 0, .slice none 0 0, .slice none 0 0, .slice (some ⟨wr.heap.size, 0, none⟩) 256 256] 30)) (.cells #[.string ⟨#[]⟩, .int .i64 256, .int .i64 0, .int .i64 0, .string ⟨#[]⟩] 44)) (.cells #[.int .i64 4, .int .i64 0, .int .i64 0, .int .i64 0, .int .i64 0, .int .i64 0, .slice (some ⟨wr.heap.size + 1 + 1, 0, none⟩) 1 1, .slice none 0 0, .slice none 0 0] 30))
      have hod := blk_alloc (blk_new ((wr.alloc (.cells (zs8 256) 5)).alloc (.cells #[.int .i64 9, .int .i64 0, .int .i64 0, .int .i64 0, .int .i64 0, .int .i64 0, .slice none 0 0, .slice none 0 0, .slice (some ⟨wr.heap.size, 0, none⟩) 256 256] 30)) (.cells #[.string ⟨#[]⟩, .int .i64 256, .int .i64 0, .int .i64 0, .string ⟨#[]⟩] 44)) (.cells #[.int .i64 4, .int .i64 0, .int .i64 0, .int .i64 0, .int .i64 0, .int .i64 0, .slice (some ⟨wr.heap.size + 1 + 1, 0, none⟩) 1 1, .slice none 0 0, .slice none 0 0] 30)
      rw [n2] at hod
      have HOd := Aside0.mk hod
      have HW6 := Aside0.mk (below_alloc (below_alloc (below_alloc (below_alloc HW.out (.cells (zs8 256) 5)) (.cells #[.int .i64 9, .int .i64 0, .int .i64 0, .int .i64 0, .int .i64 0, .int .i64 0, .slice none 0 0, .slice none 0 0, .slice (some ⟨wr.heap.size, 0, none⟩) 256 256] 30)) (.cells #[.string ⟨#[]⟩, .int .i64 256, .int .i64 0, .int .i64 0, .string ⟨#[]⟩] 44)) (.cells #[.int .i64 4, .int .i64 0, .int .i64 0, .int .i64 0, .int .i64 0, .int .i64 0, .slice (some ⟨wr.heap.size + 1 + 1, 0, none⟩) 1 1, .slice none 0 0, .slice none 0 0] 30))
      have n3 : (((wr.alloc (.cells (zs8 256) 5)).alloc (.cells #[.int .i64 9, .int .i64 0, .int .i64 0, .int .i64 0, .int .i64 0, .int .i64 0, .slice none 0 0, .slice none 0 0, .slice (some ⟨wr.heap.size, 0, none⟩) 256 256] 30)).alloc (.cells #[.string ⟨#[]⟩, .int .i64 256, .int .i64 0, .int .i64 0, .string ⟨#[]⟩] 44)).heap.size = wr.heap.size + 1 + 1 + 1 := by simp
      have ho1 := blk_alloc (blk_alloc (blk_new (wr.alloc (.cells (zs8 256) 5)) (.cells #[.int .i64 9, .int .i64 0, .int .i64 0, .int .i64 0, .int .i64 0, .int .i64 0, .slice none 0 0, .slice none 0 0, .slice (some ⟨wr.heap.size, 0, none⟩) 256 256] 30)) (.cells #[.string ⟨#[]⟩, .int .i64 256, .int .i64 0, .int .i64 0, .string ⟨#[]⟩] 44)) (.cells #[.int .i64 4, .int .i64 0, .int .i64 0, .int .i64 0, .int .i64 0, .int .i64 0, .slice (some ⟨wr.heap.size + 1 + 1, 0, none⟩) 1 1, .slice none 0 0, .slice none 0 0] 30)
      rw [n1] at ho1
      have HO1 := Aside0.mk ho1
      have ho2 := blk_new (((wr.alloc (.cells (zs8 256) 5)).alloc (.cells #[.int .i64 9, .int .i64 0, .int .i64 0, .int .i64 0, .int .i64 0, .int .i64 0, .slice none 0 0, .slice none 0 0, .slice (some ⟨wr.heap.size, 0, none⟩) 256 256] 30)).alloc (.cells #[.string ⟨#[]⟩, .int .i64 256, .int .i64 0, .int .i64 0, .string ⟨#[]⟩] 44)) (.cells #[.int .i64 4, .int .i64 0, .int .i64 0, .int .i64 0, .int .i64 0, .int .i64 0, .slice (some ⟨wr.heap.size + 1 + 1, 0, none⟩) 1 1, .slice none 0 0, .slice none 0 0] 30)
      rw [n3] at ho2
      have HO2 := Aside0.mk ho2
      clear hod n1 n2 n3 ho1 ho2
      go_upto_region 16 with fail
      generalize hwq : ((((wr.alloc (.cells (zs8 256) 5)).alloc (.cells #[.int .i64 9, .int .i64 0, .int .i64 0, .int .i64 0, .int .i64 0, .int .i64 0, .slice none 0 0, .slice none 0 0, .slice (some ⟨wr.heap.size, 0, none⟩) 256 256] 30)).alloc (.cells #[.string ⟨#[]⟩, .int .i64 256, .int .i64 0, .int .i64 0, .string ⟨#[]⟩] 44)).alloc (.cells #[.int .i64 4, .int .i64 0, .int .i64 0, .int .i64 0, .int .i64 0, .int .i64 0, .slice (some ⟨wr.heap.size + 1 + 1, 0, none⟩) 1 1, .slice none 0 0, .slice none 0 0] 30)) = wq at *
      clear hwq hz1 HW
      have q0 := blk_cell HO1.out 0
      have q1 := blk_cell HO1.out 1
      have q2 := blk_cell HO1.out 2
      have q3 := blk_cell HO1.out 3
      have q4 := blk_cell HO1.out 4
      have q5 := blk_cell HO1.out 5
      have q6 := blk_cell HO1.out 6
      have q7 := blk_cell HO1.out 7
      have q8 := blk_cell HO1.out 8
      have hl1 := blk_lt HO1.out
      go_wp2_with (first | (replace HW9 := HW9; go_at_call 3; refine (Cr.codeRuns_calls _ (Go.Proofs.YtbplemhjhpfkgaaDoor.Ft.Door.below HG.out (below_step HBd.out HW9.out))).mono ?_; rintro e w9 ⟨rfl, hB⟩; have HWf := Aside0.mk (below_step HW9.out hB); clear hB) | (replace HW8 := HW8; go_at_call 20; refine (right_one n _ _ (blk_new w7 (.cells #[.string ⟨#[]⟩, .int .i64 255, .int .i64 n, .int .i64 0, .string ⟨#[113]⟩] 44))).mono ?_; rintro e w8 ⟨rfl, hB⟩; have HW9 := Aside0.mk (below_step (below_alloc HW8.out (.cells #[.string ⟨#[]⟩, .int .i64 255, .int .i64 n, .int .i64 0, .string ⟨#[113]⟩] 44)) hB); clear hB) | (replace HW7b := HW7b; go_at_call 20; refine (right_zero _).mono ?_; rintro e w7 ⟨rfl, hB⟩; have HW8 := Aside0.mk (below_step HW7b.out hB); clear hB) | (replace HW6m := HW6m; go_at_call 20; refine (right_odd (wr.heap.size + 1 + 1) _ HOd.out).mono ?_; rintro e w6 ⟨rfl, hB⟩; have HW7b := Aside0.mk (below_step HW6.out hB); clear hB) | (go_at_call 20; refine (right_longN 256 (by omega) (by omega) wr.heap.size _ HLg.out).mono ?_; rintro e w5 ⟨rfl, hB⟩; replace HOd := Aside0.mk (blk_below HOd.out hB); replace HO2 := Aside0.mk (blk_below HO2.out hB); replace HW6 := Aside0.mk (below_step HW6.out hB); have HW6m := HW6; clear q0 q1 q2 q3 q4 q5 q6 q7 q8 hl1; have p0 := blk_cell HO2.out 0; have p1 := blk_cell HO2.out 1; have p2 := blk_cell HO2.out 2; have p3 := blk_cell HO2.out 3; have p4 := blk_cell HO2.out 4; have p5 := blk_cell HO2.out 5; have p6 := blk_cell HO2.out 6; have p7 := blk_cell HO2.out 7; have p8 := blk_cell HO2.out 8; have hl2 := blk_lt HO2.out; clear hB))
      go_ret
      exact ⟨rfl, below_step HBd.out HWf.out⟩
end Go.Proofs.YtbplemhjhpfkgaaDoor.Cd

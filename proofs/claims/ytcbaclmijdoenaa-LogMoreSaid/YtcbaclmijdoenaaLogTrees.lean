/-
  LogTrees: what is a tree of each publication is once, and one way.
-/
import Derived.Test.YtcbaclmijdoenaaLogTool
namespace Go.Proofs.Ytcbaclmijdoenaa.Lg
open Go.RowKit Go.ChangeShapes Go.Proofs.YtcbaclmijdoenaaW.PrintWords Go.Proofs.YtcbaclmijdoenaaW.PrintLast Go.Proofs.YtcbaclmijdoenaaW.PrintMore
set_option linter.unusedVariables false
set_option linter.unusedSimpArgs false

def ltReg.T8 : Bool × List (List Nat × List Nat) := (true, [([], []), ([], []), ([], []), ([], []), ([2, 3], [2, 3]), ([4], [4]), ([], []), ([6], [6]), ([7], [7]), ([5, 8], [5, 8]), ([1, 9], [1, 9]), ([10], [10]), ([], []), ([], []), ([11, 12, 13], [11, 12, 13]), ([14], [14]), ([0, 15, 9], [0, 15]), ([16, 16, 0, 1, 2, 3, 4, 5, 6, 7, 8, 9, 10, 11, 12, 13, 14, 15, 16], [0, 16])])
def ltReg.B8 : List Nat := [0, 0, 0, 0, 12, 28, 0, 64, 192, 508, 1022, 2046, 0, 0, 16382, 32766, 65535, 131071]
theorem ltReg.tab8 : rtab .any (opsOf Try.f4 8) = ltReg.T8 := by kernel_rfl
theorem ltReg.bits8 : waitsOk ltReg.T8.2 ltReg.B8 = true := by kernel_rfl
def ltReg.T10 : Bool × List (List Nat × List Nat) := (true, [([], []), ([], []), ([], []), ([2], [2]), ([3], [3]), ([0, 1, 4], [0, 1, 4]), ([5], [5]), ([6, 5], [6]), ([7], [7]), ([8, 7, 7], [7, 8]), ([9, 7], [7, 9]), ([7, 10], [7, 10]), ([11, 9], [11]), ([12], [12]), ([13, 12, 12], [12, 13]), ([14, 12], [12, 14]), ([12, 15], [12, 15]), ([16, 14], [16]), ([17], [17]), ([17], [17]), ([18, 19, 17, 17], [17, 18, 19]), ([20, 17], [17, 20]), ([17], [17]), ([22, 17], [17, 22]), ([21, 23, 17], [17, 21, 23]), ([17, 24], [17, 24])])
def ltReg.B10 : List Nat := [0, 0, 0, 4, 12, 31, 63, 127, 255, 511, 1023, 2047, 4095, 8191, 16383, 32767, 65535, 131071, 262143, 262143, 1048575, 2097151, 262143, 4456447, 16777215, 33554431]
theorem ltReg.tab10 : rtab .any (opsOf Try.f4 10) = ltReg.T10 := by kernel_rfl
theorem ltReg.bits10 : waitsOk ltReg.T10.2 ltReg.B10 = true := by kernel_rfl
def ltReg.T14 : Bool × List (List Nat × List Nat) := (true, [([], []), ([], []), ([0, 1], [0, 1]), ([], []), ([3], [3]), ([4], [4]), ([5], [5]), ([2, 6, 2], [2, 6]), ([7, 7, 0, 1, 2, 3, 4, 5, 6, 7], [7])])
def ltReg.B14 : List Nat := [0, 0, 3, 0, 8, 24, 56, 127, 255]
theorem ltReg.tab14 : rtab .any (opsOf Try.f4 14) = ltReg.T14 := by kernel_rfl
theorem ltReg.bits14 : waitsOk ltReg.T14.2 ltReg.B14 = true := by kernel_rfl
def ltReg.T15 : Bool × List (List Nat × List Nat) := (true, [([], []), ([], []), ([0, 1], [0, 1]), ([], []), ([3], [3]), ([4], [4]), ([5], [5]), ([], []), ([7], [7]), ([8], [8]), ([9], [9]), ([], []), ([6, 10, 11], [6, 10, 11]), ([12], [12]), ([2, 13, 2], [2, 13]), ([14, 14, 0, 1, 2, 3, 4, 5, 6, 7, 8, 9, 10, 11, 12, 13, 14], [14])])
def ltReg.B15 : List Nat := [0, 0, 3, 0, 8, 24, 56, 0, 128, 384, 896, 0, 4088, 8184, 16383, 32767]
theorem ltReg.tab15 : rtab .any (opsOf Try.f4 15) = ltReg.T15 := by kernel_rfl
theorem ltReg.bits15 : waitsOk ltReg.T15.2 ltReg.B15 = true := by kernel_rfl
def ltReg.T16 : Bool × List (List Nat × List Nat) := (true, [([], []), ([], []), ([], []), ([2], [2]), ([3], [3]), ([0, 1, 4], [0, 1, 4]), ([5], [5]), ([6, 5], [6]), ([7], [7]), ([8, 7, 7], [7, 8]), ([9, 7], [7, 9]), ([7, 10], [7, 10]), ([11, 9], [11]), ([12], [12]), ([12], [12]), ([12], [12]), ([15, 12], [12, 15]), ([16, 12], [12, 16]), ([13, 14, 17, 12, 12], [12, 13, 14, 17]), ([18, 12], [12, 18]), ([12, 19], [12, 19]), ([20, 18], [20]), ([21], [21]), ([22, 21, 21], [21, 22]), ([23, 21], [21, 23]), ([21, 24], [21, 24]), ([25, 23], [25]), ([26], [26]), ([26], [26]), ([27, 28, 26, 26], [26, 27, 28]), ([26, 29], [26, 29]), ([30, 29], [30]), ([31, 31], [31]), ([31, 32], [31, 32]), ([33, 32, 0, 1, 2, 3, 4, 5, 6, 7, 8, 9, 10, 11, 12, 13, 14, 15, 16, 17, 18, 19, 20, 21, 22, 23, 24, 25, 26, 27, 28, 29, 30, 31, 32, 33], [33])])
def ltReg.B16 : List Nat := [0, 0, 0, 4, 12, 31, 63, 127, 255, 511, 1023, 2047, 4095, 8191, 8191, 8191, 40959, 106495, 262143, 524287, 1048575, 2097151, 4194303, 8388607, 16777215, 33554431, 67108863, 134217727, 134217727, 536870911, 1073741823, 2147483647, 4294967295, 8589934591, 17179869183]
theorem ltReg.tab16 : rtab .any (opsOf Try.f4 16) = ltReg.T16 := by kernel_rfl
theorem ltReg.bits16 : waitsOk ltReg.T16.2 ltReg.B16 = true := by kernel_rfl
theorem tr_head {r : Int} {cs : List Cr} (h : Tr r cs) (hne : ¬ cs.length = 0) : cs[0]? = some (r, 10, 3, 0) := by
  cases cs with
  | nil => simp at hne
  | cons x l => rw [tr_first h]; rfl
theorem tr_twice1 {r : Int} {cs : List Cr} (h : Tr r cs) (hr : 0 ≤ r ∧ r ≤ 9) (hne : ¬ cs.length = 0) : treeL [r] (ofL (cs ++ [(r, 10, 3, 0)]) (3, 0)) = false ∧ decide (cs ++ [(r, 10, 3, 0)]).Nodup = false := by
  cases cs with
  | nil => simp at hne
  | cons x l => obtain rfl := tr_first h; exact tr_twice h hr
theorem tr_back1 {r : Int} {cs : List Cr} (h : Tr r cs) (hr : 0 ≤ r ∧ r ≤ 9) (hne : ¬ cs.length = 0) : treeL [r] (ofL (cs ++ [(10, r, 3, 0)]) (3, 0)) = false ∧ decide (OneWay (cs ++ [(10, r, 3, 0)])) = false := by
  cases cs with
  | nil => simp at hne
  | cons x l => obtain rfl := tr_first h; exact tr_back h hr
theorem own_emptyCr (w : World) : Kd.R kCr 25 (w.alloc (.cells #[] 25)) w.heap.size (fun _ => True) (.slice (some ⟨w.heap.size, 0, none⟩) 0 0) [] :=
  ⟨fun _ _ => trivial, [], by show World.ownsRow _ _ _ 4 _ _ _; simpa using World.ownsRow_lit (base := w.heap.size) (e := 25) (size := 4) w #[] 0 (Nat.le_refl _) (by simp) rfl, Reps.none _ _⟩
theorem own_ne {b g : Nat} (h : b ≠ g) : some g ≠ (Value.slice (some ⟨b, 0, none⟩) 0 0).ownBlock := by
  simp [Value.ownBlock]
  exact fun e => h e.symm
theorem int_cr : ∀ q, q ∈ 3 :: (Kd.int .i64).E → q ≠ 25 := by
  intro q hq
  have hq1 : q ∈ [3] := hq
  simp at hq1
  omega
theorem cr_int : ∀ q, q ∈ 25 :: kCr.E → q ≠ 3 := by
  intro q hq
  have hq1 : q ∈ [25] := hq
  simp at hq1
  omega
theorem own_one64 (w : World) (x : Int) : Kd.R (Kd.int .i64) 3 (w.alloc (.cells #[.int .i64 x] 3)) w.heap.size (fun _ => True) (.slice (some ⟨w.heap.size, 0, none⟩) 1 1) [x] :=
  Kd.R_of_own (enc := Value.int .i64) (h1 := fun _ => rfl) (by simpa [encs] using World.ownsRow_lit (base := w.heap.size) (e := 3) (size := 1) w #[.int .i64 x] 1 (Nat.le_refl _) (by simp [maxLen]) rfl) (fun _ _ => trivial)

set_option maxRecDepth 100000 in
set_option maxHeartbeats 4000000 in
theorem trees_calls (A0 : Option Addr) (c0 : Nat) (l : List Int) (root : Int) (w : World) (hr : Kd.C (Kd.int .i64) w A0 l.length l) :
    Calls Try.prog 4 #[.slice A0 l.length c0, .int .i64 root] w fun e w' => e = .returned (.bool true) ∧ Below w.heap.size w w' := by
  have hbd := within_bd root 0 9 (by omega)
  have HWI : Aside0 (∀ W, Calls Try.prog 11 #[.int .i64 root, .int .i64 0, .int .i64 9] W fun e w' => e = .returned (.int .i64 (within root 0 9)) ∧ W = w') := ⟨fun W => within_calls root 0 9 W (by omega) (by omega) (by omega)⟩
  generalize within root 0 9 = r at *
  have HR := Aside0.mk hr
  clear hr
  have HX := Aside0.mk (blk_alloc (blk_new w (.cells #[.int .i64 3, .int .i64 0] 23)) (.cells #[.int .i64 r] 3))
  have HB := Aside0.mk (below_alloc (below_alloc (Below.refl w.heap.size w) (.cells #[.int .i64 3, .int .i64 0] 23)) (.cells #[.int .i64 r] 3))
  have HO1 := Aside0.mk (Kd.R_lower (own_one64 (w.alloc (.cells #[.int .i64 3, .int .i64 0] 23)) r) (show w.heap.size ≤ _ by simp))
  go_enter Try.func4, Try.ntmps4
  go_upto_block 0 with (first | (go_at_call 11; refine (HWI.out _).mono ?_; rintro e w1 ⟨rfl, rfl⟩))
  go_cut [6, 7, 8] (fun v u i wx => ∃ cs : List Cr, cs.length ≤ 9 ∧ Aside0 (Tr r cs) ∧ Aside0 (Kd.R (Kd.int .i64) 3 wx w.heap.size (fun _ => True) v (ins r cs.length)) ∧ Aside0 (Kd.R kCr 25 wx w.heap.size (fun _ => True) u cs) ∧ Aside0 (wx.heap[w.heap.size]? = some (.cells #[.int .i64 3, .int .i64 0] 23 (0, 0))) ∧ Aside0 (Below w.heap.size w wx))
  case first =>
    go_wp2_with fail
    go_loopw [6, 7, 8] (fun v u i wr => ∃ (k : Nat) (cs : List Cr), k ≤ 9 ∧ i = .int .i64 k ∧ cs.length = k ∧ Aside0 (Tr r cs) ∧ Aside0 (Kd.R (Kd.int .i64) 3 wr w.heap.size (fun _ => True) v (ins r k)) ∧ Aside0 (Kd.R kCr 25 wr w.heap.size (fun _ => True) u cs) ∧ Aside0 (wr.heap[w.heap.size]? = some (.cells #[.int .i64 3, .int .i64 0] 23 (0, 0))) ∧ Aside0 (Below w.heap.size w wr)) (fun _ _ i _ => 9 - (intOf i).toNat)
    case atStart =>
      refine ⟨0, [], by omega, rfl, rfl, ⟨tr_nil r⟩, ⟨?_⟩, ⟨Kd.R_nil _ _ _ _ _⟩, HX, HB⟩
      have := HO1.out
      simpa [ins] using this
    case round =>
      obtain ⟨k, cs, hk, rfl, hlen, HT, HI, HO, HP, HB1⟩ := hrel
      by_cases hlt : k < 9
      · by_cases hl : k < l.length
        · obtain ⟨ad0, rfl, hc0⟩ := nums_at HR.out k hl
          generalize l.getD k 0 = n at hc0
          obtain ⟨d, hd, HW8⟩ : ∃ d : Nat, d ≤ k ∧ Aside0 (∀ W, Calls Try.prog 11 #[.int .i64 n, .int .i64 0, .int .i64 (k : Int)] W fun e w' => e = .returned (.int .i64 (d : Int)) ∧ W = w') := by
            have h1 := within_bd n 0 k (by omega)
            refine ⟨(within n 0 k).toNat, by omega, ⟨fun W => ?_⟩⟩
            have h2 := within_calls n 0 k W (by omega) (by omega) (by omega)
            rwa [show (((within n 0 k).toNat : Nat) : Int) = within n 0 k by omega]
          have h6 := Kd.R_reads HI.out
          rw [ins_len] at h6
          obtain ⟨A6, c6, rfl, hc6, hC6⟩ := h6
          obtain ⟨ad6, rfl, hc6d⟩ := nums_at hC6 d (by omega)
          have hf := ins_get r k d hd
          generalize (ins r k).getD d 0 = f at hc6d hf
          have h7 := Kd.R_reads HO.out
          rw [hlen] at h7
          obtain ⟨A7, c7, rfl, hc7, hC7⟩ := h7
          have HC0 := Aside0.mk (cells_at HB1.out hc0)
          have HC6 := Aside0.mk hc6d
          have HLEN := Lib.hid hlen
          have HF := Aside0.mk hf
          clear hc0 hc6d hC7 hC6 hlen hf
          have HW := Aside0.mk (Below.refl wr.heap.size wr)
          go_upto_region 8 with fail
          go_cut [7] from 16 to 48 (fun v wx => Aside0 (Kd.R kCr 25 wx w.heap.size (fun _ => True) v (cs ++ [(f, 10 + (k : Int), 3, 0)])) ∧ Aside0 (Kd.R (Kd.int .i64) 3 wx w.heap.size (fun _ => True) (.slice (some ad6) (k + 1) c6) (ins r k)) ∧ Aside0 (wx.heap[w.heap.size]? = some (.cells #[.int .i64 3, .int .i64 0] 23 (0, 0))) ∧ Aside0 (Below w.heap.size w wx))
          case first =>
            refine start_ (n := 18) (S := fun w' => True) (ds := []) #[false, false, false, false, false, false, false, false, false, false, false, false, false, false, false, false, false, false] (by kernel_rfl) rfl rfl trivial (fun hHeld => ?_)
            refine with_tabW ltReg.tab8 ltReg.bits8 (fun HT_ HW_ => ?_)
            refine pure_ (i := 0) (N := some 28) (v := ?_) (a' := ?_) #[true, false, false, false, false, false, false, false, false, false, false, false, false, false, false, false, false, false] rfl rfl (any_of HT_.out (by kernel_rfl)) (fun _ _ _ h => h) (Or.inl ⟨by rfl, ?_⟩) ?_ ?_
            rotate_left
            · intro w'
              go_simp
              with_reducible rfl
            rotate_left
            · simp only [Act.put, List.setIfInBounds_toArray, List.set_cons_zero, List.set_cons_succ, i64_w, i32_w]
              rfl
            refine pure_ (i := 1) (N := some 29) (v := ?_) (a' := ?_) #[true, true, false, false, false, false, false, false, false, false, false, false, false, false, false, false, false, false] rfl rfl (any_of HT_.out (by kernel_rfl)) (fun _ _ _ h => h) (Or.inl ⟨by rfl, ?_⟩) ?_ ?_
            rotate_left
            · intro w'
              go_simp
              with_reducible rfl
            rotate_left
            · simp only [Act.put, List.setIfInBounds_toArray, List.set_cons_zero, List.set_cons_succ, i64_w, i32_w]
              rfl
            refine pure_ (i := 2) (N := some 30) (v := ?_) (a' := ?_) #[true, true, true, false, false, false, false, false, false, false, false, false, false, false, false, false, false, false] rfl rfl (any_of HT_.out (by kernel_rfl)) (fun _ _ _ h => h) (Or.inl ⟨by rfl, ?_⟩) ?_ ?_
            rotate_left
            · intro w'
              go_simp
              with_reducible rfl
            rotate_left
            · simp only [Act.put, List.setIfInBounds_toArray, List.set_cons_zero, List.set_cons_succ, i64_w, i32_w]
              rfl
            refine pure_ (i := 3) (N := some 31) (v := ?_) (a' := ?_) #[true, true, true, true, false, false, false, false, false, false, false, false, false, false, false, false, false, false] rfl rfl (any_of HT_.out (by kernel_rfl)) (fun _ _ _ h => h) (Or.inl ⟨by rfl, ?_⟩) ?_ ?_
            rotate_left
            · intro w'
              go_simp
              with_reducible rfl
            rotate_left
            · simp only [Act.put, List.setIfInBounds_toArray, List.set_cons_zero, List.set_cons_succ, i64_w, i32_w]
              rfl
            refine pure_ (i := 6) (N := some 34) (v := ?_) (a' := ?_) #[true, true, true, true, false, false, true, false, false, false, false, false, false, false, false, false, false, false] rfl rfl (any_of HT_.out (by kernel_rfl)) (fun _ _ _ h => h) (Or.inl ⟨by rfl, ?_⟩) ?_ ?_
            rotate_left
            · intro w'
              go_simp
              with_reducible rfl
            rotate_left
            · simp only [Act.put, List.setIfInBounds_toArray, List.set_cons_zero, List.set_cons_succ, i64_w, i32_w]
              rfl
            refine pure_ (i := 12) (N := some 40) (v := ?_) (a' := ?_) #[true, true, true, true, false, false, true, false, false, false, false, false, true, false, false, false, false, false] rfl rfl (any_of HT_.out (by kernel_rfl)) (fun _ _ _ h => h) (Or.inl ⟨by rfl, ?_⟩) ?_ ?_
            rotate_left
            · intro w'
              go_simp
              with_reducible rfl
            rotate_left
            · simp only [Act.put, List.setIfInBounds_toArray, List.set_cons_zero, List.set_cons_succ, i64_w, i32_w]
              rfl
            refine inv_at [4, 5, 7, 8, 9, 10, 11, 13, 14, 15, 16, 17] (fun a0_ b a w' => ∃ (b_ : Nat) (s_ : Value) (m15_ : Value) (m17_ : Value), a = putSel a0_ b [(4, 32, .pointer (some (ad0.add k))), (5, 33, .int .i64 n), (7, 35, .int .i64 ((k : Int) + 1)), (8, 36, .int .i64 (k : Int)), (9, 37, .int .i64 (d : Int)), (10, 38, .pointer (some (ad6.add d))), (11, 39, .int .i64 f), (13, 41, .agg #[.int .i64 3, .int .i64 0]), (14, 42, .agg #[.int .i64 f, .int .i64 (10 + (k : Int)), .int .i64 3, .int .i64 0]), (15, 43, m15_), (16, 44, s_), (17, 7, m17_)] ∧ (b 16 = false → Below wr.heap.size wr w') ∧ (b 15 = true → b 16 = false → w'.heap[b_]? = some (.cells #[.int .i64 f, .int .i64 (10 + (k : Int)), .int .i64 3, .int .i64 0] 25 (0, 0))) ∧ (b 16 = true → Kd.R kCr 25 w' w.heap.size (fun _ => True) s_ (cs ++ [(f, 10 + (k : Int), 3, 0)])) ∧ (b 16 = true → Kd.R (Kd.int .i64) 3 w' w.heap.size (fun _ => True) (.slice (some ad6) (k + 1) c6) (ins r k)) ∧ (b 16 = true → w'.heap[w.heap.size]? = some (.cells #[.int .i64 3, .int .i64 0] 23 (0, 0))) ∧ (b 16 = true → Below w.heap.size w w') ∧ (b 15 = true → (m15_ : Value) = .slice (some ⟨b_, 0, none⟩) 1 1) ∧ (b 17 = true → (m17_ : Value) = s_)) HT_.out HW_.out (by kernel_rfl) (by kernel_rfl) ?_ ?_ ?_
            · exact ⟨0, .bool false, .bool false, .bool false, by simp only [putSel, Bool.false_eq_true, if_false], fun _ => below_drew HW.out, fun h_ => absurd h_ (by decide), fun h_ => absurd h_ (by decide), fun h_ => absurd h_ (by decide), fun h_ => absurd h_ (by decide), fun h_ => absurd h_ (by decide), fun h_ => absurd h_ (by decide), fun h_ => absurd h_ (by decide)⟩
            · skip
              clear HW
              refine steps_cons ?_ ?_
              · rintro b a w' ⟨b_, s_, m15_, m17_, ha, Q_HW, Q_HS, Q_H7, Q_H6, Q_H5, Q_H0, Q_X15_, Q_X17_⟩ hb_ hon hoff
                refine ⟨_, rfl, fun K hK => ?_⟩
                have e30 : a.tmps[30]? = some (.slice (some ad0) l.length c0) := by rw [ha]; exact (putSel_off rfl).trans rfl
                have e31 : a.tmps[31]? = some (.int .i64 (k : Int)) := by rw [ha]; exact (putSel_off rfl).trans rfl
                replace ha := Aside0.mk ha
                have HW := Aside0.mk (Q_HW (hoff 16 (by kernel_rfl)))
                have hb1 : (k : Int) < (l.length : Int) := by omega
                refine value_ (w1 := w') (v := .pointer (some (ad0.add k))) (by rfl) rfl ?_ ?_
                · go_simp
                  (try simp only [i64_w])
                  try rfl
                refine hK.out _ _ ⟨b_, s_, m15_, m17_, (by rw [ha.out]; exact putSel_upk 0 hb_ rfl rfl rfl), Q_HW, fun h0_ _ => absurd ((hoff 15 (by kernel_rfl)).symm.trans h0_) (by decide), fun h0_ => absurd ((hoff 16 (by kernel_rfl)).symm.trans h0_) (by decide), fun h0_ => absurd ((hoff 16 (by kernel_rfl)).symm.trans h0_) (by decide), fun h0_ => absurd ((hoff 16 (by kernel_rfl)).symm.trans h0_) (by decide), fun h0_ => absurd ((hoff 16 (by kernel_rfl)).symm.trans h0_) (by decide), fun h0_ => absurd ((hoff 15 (by kernel_rfl)).symm.trans h0_) (by decide), fun h0_ => absurd ((hoff 17 (by kernel_rfl)).symm.trans h0_) (by decide)⟩
              refine steps_cons ?_ ?_
              · rintro b a w' ⟨b_, s_, m15_, m17_, ha, Q_HW, Q_HS, Q_H7, Q_H6, Q_H5, Q_H0, Q_X15_, Q_X17_⟩ hb_ hon hoff
                refine ⟨_, rfl, fun K hK => ?_⟩
                have e32 : a.tmps[32]? = some (.pointer (some (ad0.add k))) := by rw [ha]; exact putSel_on (e := (4, 32, .pointer (some (ad0.add k)))) 0 rfl rfl (hon 4 (by kernel_rfl)) rfl
                replace ha := Aside0.mk ha
                have HW := Aside0.mk (Q_HW (hoff 16 (by kernel_rfl)))
                have q0 := cells_at HW.out HC0.out
                refine value_ (w1 := w') (v := .int .i64 n) (by rfl) rfl ?_ ?_
                · go_simp
                  (try simp only [i64_w])
                  try rfl
                refine hK.out _ _ ⟨b_, s_, m15_, m17_, (by rw [ha.out]; exact putSel_upk 1 hb_ rfl rfl rfl), Q_HW, fun h0_ _ => absurd ((hoff 15 (by kernel_rfl)).symm.trans h0_) (by decide), fun h0_ => absurd ((hoff 16 (by kernel_rfl)).symm.trans h0_) (by decide), fun h0_ => absurd ((hoff 16 (by kernel_rfl)).symm.trans h0_) (by decide), fun h0_ => absurd ((hoff 16 (by kernel_rfl)).symm.trans h0_) (by decide), fun h0_ => absurd ((hoff 16 (by kernel_rfl)).symm.trans h0_) (by decide), fun h0_ => absurd ((hoff 15 (by kernel_rfl)).symm.trans h0_) (by decide), fun h0_ => absurd ((hoff 17 (by kernel_rfl)).symm.trans h0_) (by decide)⟩
              refine steps_cons ?_ ?_
              · rintro b a w' ⟨b_, s_, m15_, m17_, ha, Q_HW, Q_HS, Q_H7, Q_H6, Q_H5, Q_H0, Q_X15_, Q_X17_⟩ hb_ hon hoff
                refine ⟨_, rfl, fun K hK => ?_⟩
                have e34 : a.tmps[34]? = some (.slice (some ad6) (k + 1) c6) := by rw [ha]; exact (putSel_off rfl).trans rfl
                replace ha := Aside0.mk ha
                have HW := Aside0.mk (Q_HW (hoff 16 (by kernel_rfl)))
                refine value_ (w1 := w') (v := .int .i64 ((k : Int) + 1)) (by rfl) rfl ?_ ?_
                · go_simp
                  (try simp only [i64_w])
                  try rfl
                refine hK.out _ _ ⟨b_, s_, m15_, m17_, (by rw [ha.out]; exact putSel_upk 2 hb_ rfl rfl rfl), Q_HW, fun h0_ _ => absurd ((hoff 15 (by kernel_rfl)).symm.trans h0_) (by decide), fun h0_ => absurd ((hoff 16 (by kernel_rfl)).symm.trans h0_) (by decide), fun h0_ => absurd ((hoff 16 (by kernel_rfl)).symm.trans h0_) (by decide), fun h0_ => absurd ((hoff 16 (by kernel_rfl)).symm.trans h0_) (by decide), fun h0_ => absurd ((hoff 16 (by kernel_rfl)).symm.trans h0_) (by decide), fun h0_ => absurd ((hoff 15 (by kernel_rfl)).symm.trans h0_) (by decide), fun h0_ => absurd ((hoff 17 (by kernel_rfl)).symm.trans h0_) (by decide)⟩
              refine steps_cons ?_ ?_
              · rintro b a w' ⟨b_, s_, m15_, m17_, ha, Q_HW, Q_HS, Q_H7, Q_H6, Q_H5, Q_H0, Q_X15_, Q_X17_⟩ hb_ hon hoff
                refine ⟨_, rfl, fun K hK => ?_⟩
                have e35 : a.tmps[35]? = some (.int .i64 ((k : Int) + 1)) := by rw [ha]; exact putSel_on (e := (7, 35, .int .i64 ((k : Int) + 1))) 2 rfl rfl (hon 7 (by kernel_rfl)) rfl
                replace ha := Aside0.mk ha
                have HW := Aside0.mk (Q_HW (hoff 16 (by kernel_rfl)))
                have q0 : IntKind.i64.wrap (k : Int) = k := IntWalk.i64_in _ (by omega)
                have q1 : IntKind.i64.wrap ((k : Int) + 1 - 1) = k := by rw [Int.add_sub_cancel]; exact q0
                refine value_ (w1 := w') (v := .int .i64 (k : Int)) (by rfl) rfl ?_ ?_
                · go_simp
                  (try simp only [i64_w])
                  try rfl
                refine hK.out _ _ ⟨b_, s_, m15_, m17_, (by rw [ha.out]; exact putSel_upk 3 hb_ rfl rfl rfl), Q_HW, fun h0_ _ => absurd ((hoff 15 (by kernel_rfl)).symm.trans h0_) (by decide), fun h0_ => absurd ((hoff 16 (by kernel_rfl)).symm.trans h0_) (by decide), fun h0_ => absurd ((hoff 16 (by kernel_rfl)).symm.trans h0_) (by decide), fun h0_ => absurd ((hoff 16 (by kernel_rfl)).symm.trans h0_) (by decide), fun h0_ => absurd ((hoff 16 (by kernel_rfl)).symm.trans h0_) (by decide), fun h0_ => absurd ((hoff 15 (by kernel_rfl)).symm.trans h0_) (by decide), fun h0_ => absurd ((hoff 17 (by kernel_rfl)).symm.trans h0_) (by decide)⟩
              refine steps_cons ?_ ?_
              · rintro b a w' ⟨b_, s_, m15_, m17_, ha, Q_HW, Q_HS, Q_H7, Q_H6, Q_H5, Q_H0, Q_X15_, Q_X17_⟩ hb_ hon hoff
                refine ⟨_, rfl, fun K hK => ?_⟩
                have e33 : a.tmps[33]? = some (.int .i64 n) := by rw [ha]; exact putSel_on (e := (5, 33, .int .i64 n)) 1 rfl rfl (hon 5 (by kernel_rfl)) rfl
                have e36 : a.tmps[36]? = some (.int .i64 (k : Int)) := by rw [ha]; exact putSel_on (e := (8, 36, .int .i64 (k : Int))) 3 rfl rfl (hon 8 (by kernel_rfl)) rfl
                replace ha := Aside0.mk ha
                have HW := Aside0.mk (Q_HW (hoff 16 (by kernel_rfl)))
                refine goes_ Try.func11 (by kernel_rfl) rfl #[.int .i64 n, .int .i64 0, .int .i64 (k : Int)] (by rfl) rfl rfl (by simp only [List.map_toArray, List.map_cons, List.map_nil, Act.eval, Array.getD_eq_getD_getElem?, Option.getD_some, e33, e36]) ?_
                refine (HW8.out w').mono ?_
                rintro e w2 ⟨rfl, rfl⟩
                refine ⟨_, rfl, ?_⟩
                refine hK.out _ _ ⟨b_, s_, m15_, m17_, (by rw [ha.out]; exact putSel_upk 4 hb_ rfl rfl rfl), fun _ => HW.out, fun h0_ _ => absurd ((hoff 15 (by kernel_rfl)).symm.trans h0_) (by decide), fun h0_ => absurd ((hoff 16 (by kernel_rfl)).symm.trans h0_) (by decide), fun h0_ => absurd ((hoff 16 (by kernel_rfl)).symm.trans h0_) (by decide), fun h0_ => absurd ((hoff 16 (by kernel_rfl)).symm.trans h0_) (by decide), fun h0_ => absurd ((hoff 16 (by kernel_rfl)).symm.trans h0_) (by decide), fun h0_ => absurd ((hoff 15 (by kernel_rfl)).symm.trans h0_) (by decide), fun h0_ => absurd ((hoff 17 (by kernel_rfl)).symm.trans h0_) (by decide)⟩
              refine steps_cons ?_ ?_
              · rintro b a w' ⟨b_, s_, m15_, m17_, ha, Q_HW, Q_HS, Q_H7, Q_H6, Q_H5, Q_H0, Q_X15_, Q_X17_⟩ hb_ hon hoff
                refine ⟨_, rfl, fun K hK => ?_⟩
                have e29 : a.tmps[29]? = some (.slice (some ad6) (k + 1) c6) := by rw [ha]; exact (putSel_off rfl).trans rfl
                have e37 : a.tmps[37]? = some (.int .i64 (d : Int)) := by rw [ha]; exact putSel_on (e := (9, 37, .int .i64 (d : Int))) 4 rfl rfl (hon 9 (by kernel_rfl)) rfl
                replace ha := Aside0.mk ha
                have HW := Aside0.mk (Q_HW (hoff 16 (by kernel_rfl)))
                have hb1 : (d : Int) < (k : Int) + 1 := by omega
                have hb2 : d < k + 1 := by omega
                refine value_ (w1 := w') (v := .pointer (some (ad6.add d))) (by rfl) rfl ?_ ?_
                · go_simp
                  (try simp only [i64_w])
                  try rfl
                refine hK.out _ _ ⟨b_, s_, m15_, m17_, (by rw [ha.out]; exact putSel_upk 5 hb_ rfl rfl rfl), Q_HW, fun h0_ _ => absurd ((hoff 15 (by kernel_rfl)).symm.trans h0_) (by decide), fun h0_ => absurd ((hoff 16 (by kernel_rfl)).symm.trans h0_) (by decide), fun h0_ => absurd ((hoff 16 (by kernel_rfl)).symm.trans h0_) (by decide), fun h0_ => absurd ((hoff 16 (by kernel_rfl)).symm.trans h0_) (by decide), fun h0_ => absurd ((hoff 16 (by kernel_rfl)).symm.trans h0_) (by decide), fun h0_ => absurd ((hoff 15 (by kernel_rfl)).symm.trans h0_) (by decide), fun h0_ => absurd ((hoff 17 (by kernel_rfl)).symm.trans h0_) (by decide)⟩
              refine steps_cons ?_ ?_
              · rintro b a w' ⟨b_, s_, m15_, m17_, ha, Q_HW, Q_HS, Q_H7, Q_H6, Q_H5, Q_H0, Q_X15_, Q_X17_⟩ hb_ hon hoff
                refine ⟨_, rfl, fun K hK => ?_⟩
                have e38 : a.tmps[38]? = some (.pointer (some (ad6.add d))) := by rw [ha]; exact putSel_on (e := (10, 38, .pointer (some (ad6.add d)))) 5 rfl rfl (hon 10 (by kernel_rfl)) rfl
                replace ha := Aside0.mk ha
                have HW := Aside0.mk (Q_HW (hoff 16 (by kernel_rfl)))
                have q0 := cells_at HW.out HC6.out
                refine value_ (w1 := w') (v := .int .i64 f) (by rfl) rfl ?_ ?_
                · go_simp
                  (try simp only [i64_w])
                  try rfl
                refine hK.out _ _ ⟨b_, s_, m15_, m17_, (by rw [ha.out]; exact putSel_upk 6 hb_ rfl rfl rfl), Q_HW, fun h0_ _ => absurd ((hoff 15 (by kernel_rfl)).symm.trans h0_) (by decide), fun h0_ => absurd ((hoff 16 (by kernel_rfl)).symm.trans h0_) (by decide), fun h0_ => absurd ((hoff 16 (by kernel_rfl)).symm.trans h0_) (by decide), fun h0_ => absurd ((hoff 16 (by kernel_rfl)).symm.trans h0_) (by decide), fun h0_ => absurd ((hoff 16 (by kernel_rfl)).symm.trans h0_) (by decide), fun h0_ => absurd ((hoff 15 (by kernel_rfl)).symm.trans h0_) (by decide), fun h0_ => absurd ((hoff 17 (by kernel_rfl)).symm.trans h0_) (by decide)⟩
              refine steps_cons ?_ ?_
              · rintro b a w' ⟨b_, s_, m15_, m17_, ha, Q_HW, Q_HS, Q_H7, Q_H6, Q_H5, Q_H0, Q_X15_, Q_X17_⟩ hb_ hon hoff
                refine ⟨_, rfl, fun K hK => ?_⟩
                have e5 : a.tmps[5]? = some (.pointer (some ⟨w.heap.size, 0, none⟩)) := by rw [ha]; exact (putSel_off rfl).trans rfl
                replace ha := Aside0.mk ha
                have HW := Aside0.mk (Q_HW (hoff 16 (by kernel_rfl)))
                have q0 := cells_at HW.out (blk_cell HP.out 0)
                have q1 := cells_at HW.out (blk_cell HP.out 1)
                refine value_ (w1 := w') (v := .agg #[.int .i64 3, .int .i64 0]) (by rfl) rfl ?_ ?_
                · go_simp
                  (try simp only [i64_w])
                  try rfl
                refine hK.out _ _ ⟨b_, s_, m15_, m17_, (by rw [ha.out]; exact putSel_upk 7 hb_ rfl rfl rfl), Q_HW, fun h0_ _ => absurd ((hoff 15 (by kernel_rfl)).symm.trans h0_) (by decide), fun h0_ => absurd ((hoff 16 (by kernel_rfl)).symm.trans h0_) (by decide), fun h0_ => absurd ((hoff 16 (by kernel_rfl)).symm.trans h0_) (by decide), fun h0_ => absurd ((hoff 16 (by kernel_rfl)).symm.trans h0_) (by decide), fun h0_ => absurd ((hoff 16 (by kernel_rfl)).symm.trans h0_) (by decide), fun h0_ => absurd ((hoff 15 (by kernel_rfl)).symm.trans h0_) (by decide), fun h0_ => absurd ((hoff 17 (by kernel_rfl)).symm.trans h0_) (by decide)⟩
              refine steps_cons ?_ ?_
              · rintro b a w' ⟨b_, s_, m15_, m17_, ha, Q_HW, Q_HS, Q_H7, Q_H6, Q_H5, Q_H0, Q_X15_, Q_X17_⟩ hb_ hon hoff
                refine ⟨_, rfl, fun K hK => ?_⟩
                have e39 : a.tmps[39]? = some (.int .i64 f) := by rw [ha]; exact putSel_on (e := (11, 39, .int .i64 f)) 6 rfl rfl (hon 11 (by kernel_rfl)) rfl
                have e40 : a.tmps[40]? = some (.int .i64 (10 + (k : Int))) := by rw [ha]; exact (putSel_off rfl).trans rfl
                have e41 : a.tmps[41]? = some (.agg #[.int .i64 3, .int .i64 0]) := by rw [ha]; exact putSel_on (e := (13, 41, .agg #[.int .i64 3, .int .i64 0])) 7 rfl rfl (hon 13 (by kernel_rfl)) rfl
                replace ha := Aside0.mk ha
                have HW := Aside0.mk (Q_HW (hoff 16 (by kernel_rfl)))
                refine value_ (w1 := w') (v := .agg #[.int .i64 f, .int .i64 (10 + (k : Int)), .int .i64 3, .int .i64 0]) (by rfl) rfl ?_ ?_
                · go_simp
                  (try simp only [i64_w])
                  try rfl
                refine hK.out _ _ ⟨b_, s_, m15_, m17_, (by rw [ha.out]; exact putSel_upk 8 hb_ rfl rfl rfl), Q_HW, fun h0_ _ => absurd ((hoff 15 (by kernel_rfl)).symm.trans h0_) (by decide), fun h0_ => absurd ((hoff 16 (by kernel_rfl)).symm.trans h0_) (by decide), fun h0_ => absurd ((hoff 16 (by kernel_rfl)).symm.trans h0_) (by decide), fun h0_ => absurd ((hoff 16 (by kernel_rfl)).symm.trans h0_) (by decide), fun h0_ => absurd ((hoff 16 (by kernel_rfl)).symm.trans h0_) (by decide), fun h0_ => absurd ((hoff 15 (by kernel_rfl)).symm.trans h0_) (by decide), fun h0_ => absurd ((hoff 17 (by kernel_rfl)).symm.trans h0_) (by decide)⟩
              refine steps_cons ?_ ?_
              · rintro b a w' ⟨b_, s_, m15_, m17_, ha, Q_HW, Q_HS, Q_H7, Q_H6, Q_H5, Q_H0, Q_X15_, Q_X17_⟩ hb_ hon hoff
                refine ⟨_, rfl, fun K hK => ?_⟩
                have e42 : a.tmps[42]? = some (.agg #[.int .i64 f, .int .i64 (10 + (k : Int)), .int .i64 3, .int .i64 0]) := by rw [ha]; exact putSel_on (e := (14, 42, .agg #[.int .i64 f, .int .i64 (10 + (k : Int)), .int .i64 3, .int .i64 0])) 8 rfl rfl (hon 14 (by kernel_rfl)) rfl
                replace ha := Aside0.mk ha
                have HW := Aside0.mk (Q_HW (hoff 16 (by kernel_rfl)))
                refine value_ (w1 := w'.alloc (.cells #[.int .i64 f, .int .i64 (10 + (k : Int)), .int .i64 3, .int .i64 0] 25)) (v := .slice (some ⟨w'.heap.size, 0, none⟩) 1 1) (by rfl) rfl (by go_simp) ?_
                refine hK.out _ _ ⟨w'.heap.size, s_, (.slice (some ⟨w'.heap.size, 0, none⟩) 1 1), m17_, (by rw [ha.out]; exact putSel_upk 9 hb_ rfl rfl rfl), fun _ => below_alloc HW.out _, fun _ _ => blk_new w' _, fun h0_ => absurd ((hoff 16 (by kernel_rfl)).symm.trans h0_) (by decide), fun h0_ => absurd ((hoff 16 (by kernel_rfl)).symm.trans h0_) (by decide), fun h0_ => absurd ((hoff 16 (by kernel_rfl)).symm.trans h0_) (by decide), fun h0_ => absurd ((hoff 16 (by kernel_rfl)).symm.trans h0_) (by decide), fun _ => rfl, fun h0_ => absurd ((hoff 17 (by kernel_rfl)).symm.trans h0_) (by decide)⟩
              refine steps_cons ?_ ?_
              · rintro b a w' ⟨b_, s_, m15_, m17_, ha, Q_HW, Q_HS, Q_H7, Q_H6, Q_H5, Q_H0, Q_X15_, Q_X17_⟩ hb_ hon hoff
                refine ⟨_, rfl, fun K hK => ?_⟩
                have e28 : a.tmps[28]? = some (.slice A7 k c7) := by rw [ha]; exact (putSel_off rfl).trans rfl
                have e43 : a.tmps[43]? = some (m15_) := by rw [ha]; exact putSel_on (e := (15, 43, m15_)) 9 rfl rfl (hon 15 (by kernel_rfl)) rfl
                rw [Q_X15_ (hon 15 (by kernel_rfl))] at e43
                replace ha := Aside0.mk ha
                have HW := Aside0.mk (Q_HW hb_)
                have HS := Aside0.mk (Q_HS (hon 15 (by kernel_rfl)) hb_)
                refine cat_step kCr flatKM w w' w.heap.size (by rfl) (.tmp 28) (.tmp 43) 27 25 (.agg #[.int .i64 0, .int .i64 0, .int .i64 0, .int .i64 0]) 32 rfl Try.underlying27 infoCr rfl (by decide) (by omega) (.slice A7 k c7) cs [(f, 10 + (k : Int), 3, 0)] (some ⟨b_, 0, none⟩) 1 1 (eval_of e28) (eval_of e43) (Kd.R_below HO.out HW.out) (C_flat_block (xs := [(f, 10 + (k : Int), 3, 0)]) HS.out (by simp)) (below_step HB1.out HW.out) (below_step HB1.out HW.out).size (by have := HLEN.out; omega) ?_
                intro v1 w1 ho hb hg
                refine hK.out _ _ ⟨b_, v1, m15_, m17_, (by rw [ha.out]; exact putSel_upk 10 hb_ rfl rfl rfl), fun h0_ => absurd ((up_self b 16).symm.trans h0_) (by decide), fun _ h1_ => absurd ((up_self b 16).symm.trans h1_) (by decide), fun _ => ho, fun _ => Kd.R_over (Kd.R_below HI.out HW.out) (Kd.R_below HO.out HW.out) int_cr hg, fun _ => blk_grown (blk_below HP.out HW.out) hg (Kd.R_ne (Kd.R_below HO.out HW.out) (blk_below HP.out HW.out) (by decide)), fun _ => hb, Q_X15_, fun h0_ => absurd ((hoff 17 (by kernel_rfl)).symm.trans h0_) (by decide)⟩
              refine steps_cons ?_ ?_
              · rintro b a w' ⟨b_, s_, m15_, m17_, ha, Q_HW, Q_HS, Q_H7, Q_H6, Q_H5, Q_H0, Q_X15_, Q_X17_⟩ hb_ hon hoff
                refine ⟨_, rfl, fun K hK => ?_⟩
                have e44 : a.tmps[44]? = some (s_) := by rw [ha]; exact putSel_on (e := (16, 44, s_)) 10 rfl rfl (hon 16 (by kernel_rfl)) rfl
                replace ha := Aside0.mk ha
                have H7 := Aside0.mk (Q_H7 (hon 16 (by kernel_rfl)))
                have H6 := Aside0.mk (Q_H6 (hon 16 (by kernel_rfl)))
                have H5 := Aside0.mk (Q_H5 (hon 16 (by kernel_rfl)))
                have H0 := Aside0.mk (Q_H0 (hon 16 (by kernel_rfl)))
                refine value_ (w1 := w') (v := s_) (by rfl) rfl ?_ ?_
                · go_simp
                  (try simp only [i64_w])
                  try rfl
                refine hK.out _ _ ⟨b_, s_, m15_, (s_), (by rw [ha.out]; exact putSel_upk 11 hb_ rfl rfl rfl), fun h0_ => absurd ((hon 16 (by kernel_rfl)).symm.trans h0_) (by decide), fun _ h1_ => absurd ((hon 16 (by kernel_rfl)).symm.trans h1_) (by decide), Q_H7, Q_H6, Q_H5, Q_H0, Q_X15_, fun _ => rfl⟩
              exact steps_nil
            · rintro b a w' hall ⟨b_, s_, m15_, m17_, ha, Q_HW, Q_HS, Q_H7, Q_H6, Q_H5, Q_H0, Q_X15_, Q_X17_⟩
              clear HW
              have hb4_ := hall 4 (by kernel_rfl)
              have hb5_ := hall 5 (by kernel_rfl)
              have hb7_ := hall 7 (by kernel_rfl)
              have hb8_ := hall 8 (by kernel_rfl)
              have hb9_ := hall 9 (by kernel_rfl)
              have hb10_ := hall 10 (by kernel_rfl)
              have hb11_ := hall 11 (by kernel_rfl)
              have hb13_ := hall 13 (by kernel_rfl)
              have hb14_ := hall 14 (by kernel_rfl)
              have hb15_ := hall 15 (by kernel_rfl)
              have hb16_ := hall 16 (by kernel_rfl)
              have hb17_ := hall 17 (by kernel_rfl)
              subst ha
              obtain rfl := Q_X15_ hb15_
              obtain rfl := Q_X17_ hb17_
              simp only [putSel, hb4_, hb5_, hb7_, hb8_, hb9_, hb10_, hb11_, hb13_, hb14_, hb15_, hb16_, hb17_, if_true, Act.put, List.setIfInBounds_toArray, List.set_cons_zero, List.set_cons_succ]
              clear Q_HW
              clear Q_HS
              have H7 := Aside0.mk (Q_H7 hb16_)
              clear Q_H7
              have H6 := Aside0.mk (Q_H6 hb16_)
              clear Q_H6
              have H5 := Aside0.mk (Q_H5 hb16_)
              clear Q_H5
              have H0 := Aside0.mk (Q_H0 hb16_)
              clear Q_H0
              clear hall hb4_ hb5_ hb7_ hb8_ hb9_ hb10_ hb11_ hb13_ hb14_ hb15_ hb16_ hb17_
              go_wp2
              go_meet
              case rel => exact ⟨H7, H6, H5, H0⟩
          case rest =>
            obtain ⟨H7, H6, H5, H0⟩ := hcut
            go_wp2_with (first | ((with_reducible refine gate_builtin (b := .append) (xs := #[.tmp 45, .tmp 47]) rfl ?_); at_builtin; refine Kd.R_append (Kd.int .i64) (w0 := w) (w.heap.size) rfl (.tmp 45) (.tmp 47) 31 3 (.int .i64 0) 8 rfl Try.underlying31 infoI64 rfl (by decide) (by omega) (.slice (some ad6) (k + 1) c6) (ins r k) (10 + (k : Int)) [.int .i64 (10 + (k : Int))] (fun _ => True) (fun _ => False) rfl rfl ?aP (fun _ hk => hk.elim) ?aF ?aO ?aB ?aS ?aL ?_; (case aP => exact rfl); (case aB => exact (by repeat (with_reducible first | exact H0.out | apply below_alloc | apply pw_below_drewN | apply below_drew1))); (case aF => exact (fun _ _ => trivial)); (case aO => exact (by (with_reducible repeat (first | apply Kd.R_alloc | apply Kd.R_drewN | apply Kd.R_drew)); exact H6.out)); (case aS => exact (below_size (by repeat (with_reducible first | exact H0.out | apply below_alloc | apply pw_below_drewN | apply below_drew1)))); (case aL => rw [ins_len]; omega); intro v1 w1 ho hb hg hat; have HI3 := Aside0.mk ho; have HB3 := Aside0.mk hb; have HO3 := Aside0.mk (Kd.R_over H7.out H6.out cr_int hg); have HP3 := Aside0.mk (blk_grown H5.out hg (Kd.R_ne H6.out H5.out (by decide))); clear ho hb hg hat))
            go_roundw
            case rel => exact ⟨k + 1, cs ++ [(f, 10 + (k : Int), 3, 0)], by omega, by go_num, by simp [HLEN.out], ⟨by have := tr_snoc HT.out (f := f) (by rw [HLEN.out]; exact HF.out); rwa [HLEN.out] at this⟩, ⟨by rw [ins_snoc]; exact HI3.out⟩, HO3, HP3, HB3⟩
            case measure => simp [intOf]; omega
        · go_wp2_with fail
          go_meet
          case rel => exact ⟨cs, by omega, HT, by rw [hlen]; exact HI, HO, HP, HB1⟩
      · by_cases hl2 : k < l.length
        · go_wp2_with fail
          go_meet
          case rel => exact ⟨cs, by omega, HT, by rw [hlen]; exact HI, HO, HP, HB1⟩
        · go_wp2_with fail
          go_meet
          case rel => exact ⟨cs, by omega, HT, by rw [hlen]; exact HI, HO, HP, HB1⟩
  case rest =>
    obtain ⟨cs, hcl, HT, HI, HO, HP, HB1⟩ := hcut
    have h6 := Kd.R_reads HI.out
    rw [ins_len] at h6
    obtain ⟨A6, c6, rfl, hc6, hC6⟩ := h6
    obtain ⟨ad6, rfl, hc60⟩ := nums_at hC6 0 (by omega)
    rw [Addr.add_zero'] at hc60
    have HC6 : Aside0 (wc.cell? ad6 = some (.int .i64 r)) := ⟨hc60⟩
    obtain ⟨A7, c7, rfl, hc7, hC7⟩ := Kd.R_reads HO.out
    have HC7 := Aside0.mk hC7
    have HOK := Aside0.mk (tr_ok HT.out hbd (by omega))
    have HRO := Aside0.mk (inI64 (n := r) (by omega) (by omega))
    have HV1 := Lib.hid (tr_tree HT.out hbd)
    have HV2 : Hid (decide cs.Nodup = true) := Lib.hid (decide_eq_true (tr_nodup HT.out))
    have HV3 : Hid (decide (OneWay cs) = true) := Lib.hid (decide_eq_true (tr_oneway HT.out hbd))
    have HV4 : Hid ((ofL cs (3, 0)).length = cs.length) := Lib.hid (by rw [tr_ofL HT.out, List.length_map])
    have HV5 := Lib.hid (tr_other HT.out 5)
    have HW := Aside0.mk (Below.refl wc.heap.size wc)
    clear hc60 hC6 hC7 hc6 hc7 HI HO HX HB HO1 HR HWI
    go_upto_region 10 with fail
    go_cut [74] (fun v wx => v = .bool false ∧ Aside0 (Below wc.heap.size wc wx))
    case first =>
      refine start_ (n := 26) (S := fun w' => True) (ds := []) #[false, false, false, false, false, false, false, false, false, false, false, false, false, false, false, false, false, false, false, false, false, false, false, false, false, false] (by kernel_rfl) rfl rfl trivial (fun hHeld => ?_)
      refine with_tabW ltReg.tab10 ltReg.bits10 (fun HT_ HW_ => ?_)
      refine pure_ (i := 0) (N := some 49) (v := ?_) (a' := ?_) #[true, false, false, false, false, false, false, false, false, false, false, false, false, false, false, false, false, false, false, false, false, false, false, false, false, false] rfl rfl (any_of HT_.out (by kernel_rfl)) (fun _ _ _ h => h) (Or.inl ⟨by rfl, ?_⟩) ?_ ?_
      rotate_left
      · intro w'
        go_simp
        with_reducible rfl
      rotate_left
      · simp only [Act.put, List.setIfInBounds_toArray, List.set_cons_zero, List.set_cons_succ, i64_w, i32_w]
        rfl
      refine pure_ (i := 2) (N := some 51) (v := ?_) (a' := ?_) #[true, false, true, false, false, false, false, false, false, false, false, false, false, false, false, false, false, false, false, false, false, false, false, false, false, false] rfl rfl (any_of HT_.out (by kernel_rfl)) (fun _ _ _ h => h) (Or.inl ⟨by rfl, ?_⟩) ?_ ?_
      rotate_left
      · intro w'
        go_simp
        with_reducible rfl
      rotate_left
      · simp only [Act.put, List.setIfInBounds_toArray, List.set_cons_zero, List.set_cons_succ, i64_w, i32_w]
        rfl
      refine inv_at [1, 3, 4, 5, 6, 7, 8, 9, 10, 11, 12, 13, 14, 15, 16, 17, 18, 19, 20, 21, 22, 23, 24, 25] (fun a0_ b a w' => ∃ (aO_ : Option Addr) (cO_ : Nat) (m20_ : Value), a = putSel a0_ b [(1, 50, .agg #[.int .i64 3, .int .i64 0]), (3, 52, .pointer (some ad6)), (4, 53, .int .i64 r), (5, 54, .bool true), (6, 55, .bool false), (7, 56, .bool false), (8, 57, .slice A7 cs.length c7), (9, 58, .bool true), (10, 59, .bool false), (11, 60, .bool false), (12, 61, .bool false), (13, 62, .slice A7 cs.length c7), (14, 63, .bool true), (15, 64, .bool false), (16, 65, .bool false), (17, 66, .bool false), (18, 67, .slice A7 cs.length c7), (19, 68, .agg #[.int .i64 3, .int .i64 0]), (20, 69, m20_), (21, 70, .int .i64 (cs.length : Int)), (22, 71, .slice A7 cs.length c7), (23, 72, .int .i64 (cs.length : Int)), (24, 73, .bool false), (25, 74, .bool false)] ∧ (Below wc.heap.size wc w') ∧ (b 20 = true → (m20_ : Value) = .slice aO_ cs.length cO_)) HT_.out HW_.out (by kernel_rfl) (by kernel_rfl) ?_ ?_ ?_
      · exact ⟨none, 0, .bool false, by simp only [putSel, Bool.false_eq_true, if_false], below_drew HW.out, fun h_ => absurd h_ (by decide)⟩
      · skip
        clear HW
        refine steps_cons ?_ ?_
        · rintro b a w' ⟨aO_, cO_, m20_, ha, Q_HW, Q_X20_⟩ hb_ hon hoff
          refine ⟨_, rfl, fun K hK => ?_⟩
          have e5 : a.tmps[5]? = some (.pointer (some ⟨w.heap.size, 0, none⟩)) := by rw [ha]; exact (putSel_off rfl).trans rfl
          replace ha := Aside0.mk ha
          have HW := Aside0.mk Q_HW
          have q0 := cells_at HW.out (blk_cell HP.out 0)
          have q1 := cells_at HW.out (blk_cell HP.out 1)
          refine value_ (w1 := w') (v := .agg #[.int .i64 3, .int .i64 0]) (by rfl) rfl ?_ ?_
          · go_simp
            (try simp only [i64_w])
            try rfl
          refine hK.out _ _ ⟨aO_, cO_, m20_, (by rw [ha.out]; exact putSel_upk 0 hb_ rfl rfl rfl), Q_HW, fun h0_ => absurd ((hoff 20 (by kernel_rfl)).symm.trans h0_) (by decide)⟩
        refine steps_cons ?_ ?_
        · rintro b a w' ⟨aO_, cO_, m20_, ha, Q_HW, Q_X20_⟩ hb_ hon hoff
          refine ⟨_, rfl, fun K hK => ?_⟩
          have e51 : a.tmps[51]? = some (.slice (some ad6) (cs.length + 1) c6) := by rw [ha]; exact (putSel_off rfl).trans rfl
          replace ha := Aside0.mk ha
          have HW := Aside0.mk Q_HW
          have hb1 : (0 : Int) < (cs.length : Int) + 1 := by omega
          refine value_ (w1 := w') (v := .pointer (some ad6)) (by rfl) rfl ?_ ?_
          · go_simp
            (try simp only [i64_w])
            try rfl
          refine hK.out _ _ ⟨aO_, cO_, m20_, (by rw [ha.out]; exact putSel_upk 1 hb_ rfl rfl rfl), Q_HW, fun h0_ => absurd ((hoff 20 (by kernel_rfl)).symm.trans h0_) (by decide)⟩
        refine steps_cons ?_ ?_
        · rintro b a w' ⟨aO_, cO_, m20_, ha, Q_HW, Q_X20_⟩ hb_ hon hoff
          refine ⟨_, rfl, fun K hK => ?_⟩
          have e52 : a.tmps[52]? = some (.pointer (some ad6)) := by rw [ha]; exact putSel_on (e := (3, 52, .pointer (some ad6))) 1 rfl rfl (hon 3 (by kernel_rfl)) rfl
          replace ha := Aside0.mk ha
          have HW := Aside0.mk Q_HW
          have q0 := cells_at HW.out HC6.out
          refine value_ (w1 := w') (v := .int .i64 r) (by rfl) rfl ?_ ?_
          · go_simp
            (try simp only [i64_w])
            try rfl
          refine hK.out _ _ ⟨aO_, cO_, m20_, (by rw [ha.out]; exact putSel_upk 2 hb_ rfl rfl rfl), Q_HW, fun h0_ => absurd ((hoff 20 (by kernel_rfl)).symm.trans h0_) (by decide)⟩
        refine steps_cons ?_ ?_
        · rintro b a w' ⟨aO_, cO_, m20_, ha, Q_HW, Q_X20_⟩ hb_ hon hoff
          refine ⟨_, rfl, fun K hK => ?_⟩
          have e49 : a.tmps[49]? = some (.slice A7 cs.length c7) := by rw [ha]; exact (putSel_off rfl).trans rfl
          have e50 : a.tmps[50]? = some (.agg #[.int .i64 3, .int .i64 0]) := by rw [ha]; exact putSel_on (e := (1, 50, .agg #[.int .i64 3, .int .i64 0])) 0 rfl rfl (hon 1 (by kernel_rfl)) rfl
          have e53 : a.tmps[53]? = some (.int .i64 r) := by rw [ha]; exact putSel_on (e := (4, 53, .int .i64 r)) 2 rfl rfl (hon 4 (by kernel_rfl)) rfl
          replace ha := Aside0.mk ha
          have HW := Aside0.mk Q_HW
          refine goes_ Try.func7 (by kernel_rfl) rfl #[.slice A7 cs.length c7, .agg #[.int .i64 3, .int .i64 0], .int .i64 r] (by rfl) rfl rfl (by simp only [List.map_toArray, List.map_cons, List.map_nil, Act.eval, Array.getD_eq_getD_getElem?, Option.getD_some, e49, e50, e53]) ?_
          refine (tree_calls A7 c7 cs (3, 0) r w' (Kd.C_below HC7.out HW.out) HOK.out HRO.out (by omega)).mono ?_
          rintro e w2 ⟨he, hB⟩
          rw [HV1.out] at he
          subst he
          refine ⟨_, rfl, ?_⟩
          refine hK.out _ _ ⟨aO_, cO_, m20_, (by rw [ha.out]; exact putSel_upk 3 hb_ rfl rfl rfl), below_step HW.out hB, fun h0_ => absurd ((hoff 20 (by kernel_rfl)).symm.trans h0_) (by decide)⟩
        refine steps_cons ?_ ?_
        · rintro b a w' ⟨aO_, cO_, m20_, ha, Q_HW, Q_X20_⟩ hb_ hon hoff
          refine ⟨_, rfl, fun K hK => ?_⟩
          have e54 : a.tmps[54]? = some (.bool true) := by rw [ha]; exact putSel_on (e := (5, 54, .bool true)) 3 rfl rfl (hon 5 (by kernel_rfl)) rfl
          replace ha := Aside0.mk ha
          have HW := Aside0.mk Q_HW
          refine value_ (w1 := w') (v := .bool false) (by rfl) rfl ?_ ?_
          · go_simp
            (try simp only [i64_w])
            try rfl
          refine hK.out _ _ ⟨aO_, cO_, m20_, (by rw [ha.out]; exact putSel_upk 4 hb_ rfl rfl rfl), Q_HW, fun h0_ => absurd ((hoff 20 (by kernel_rfl)).symm.trans h0_) (by decide)⟩
        refine steps_cons ?_ ?_
        · rintro b a w' ⟨aO_, cO_, m20_, ha, Q_HW, Q_X20_⟩ hb_ hon hoff
          refine ⟨_, rfl, fun K hK => ?_⟩
          have e55 : a.tmps[55]? = some (.bool false) := by rw [ha]; exact putSel_on (e := (6, 55, .bool false)) 4 rfl rfl (hon 6 (by kernel_rfl)) rfl
          replace ha := Aside0.mk ha
          have HW := Aside0.mk Q_HW
          refine value_ (w1 := w') (v := .bool false) (by rfl) rfl ?_ ?_
          · go_simp
            (try simp only [i64_w])
            try rfl
          refine hK.out _ _ ⟨aO_, cO_, m20_, (by rw [ha.out]; exact putSel_upk 5 hb_ rfl rfl rfl), Q_HW, fun h0_ => absurd ((hoff 20 (by kernel_rfl)).symm.trans h0_) (by decide)⟩
        refine steps_cons ?_ ?_
        · rintro b a w' ⟨aO_, cO_, m20_, ha, Q_HW, Q_X20_⟩ hb_ hon hoff
          refine ⟨_, rfl, fun K hK => ?_⟩
          have e7 : a.tmps[7]? = some (.slice A7 cs.length c7) := by rw [ha]; exact (putSel_off rfl).trans rfl
          have e56 : a.tmps[56]? = some (.bool false) := by rw [ha]; exact putSel_on (e := (7, 56, .bool false)) 5 rfl rfl (hon 7 (by kernel_rfl)) rfl
          replace ha := Aside0.mk ha
          have HW := Aside0.mk Q_HW
          refine value_ (w1 := w') (v := .slice A7 cs.length c7) (wanted_on rfl rfl rfl (e56.trans (by first | rfl | (simp [*]; done)))) rfl ?_ ?_
          · go_simp
            (try simp only [i64_w])
            try rfl
          refine hK.out _ _ ⟨aO_, cO_, m20_, (by rw [ha.out]; exact putSel_upk 6 hb_ rfl rfl rfl), Q_HW, fun h0_ => absurd ((hoff 20 (by kernel_rfl)).symm.trans h0_) (by decide)⟩
        refine steps_cons ?_ ?_
        · rintro b a w' ⟨aO_, cO_, m20_, ha, Q_HW, Q_X20_⟩ hb_ hon hoff
          refine ⟨_, rfl, fun K hK => ?_⟩
          have e57 : a.tmps[57]? = some (.slice A7 cs.length c7) := by rw [ha]; exact putSel_on (e := (8, 57, .slice A7 cs.length c7)) 6 rfl rfl (hon 8 (by kernel_rfl)) rfl
          have e56 : a.tmps[56]? = some (.bool false) := by rw [ha]; exact putSel_on (e := (7, 56, .bool false)) 5 rfl rfl (hon 7 (by kernel_rfl)) rfl
          replace ha := Aside0.mk ha
          have HW := Aside0.mk Q_HW
          refine goes_ Try.func9 (by kernel_rfl) rfl #[.slice A7 cs.length c7] (wanted_on rfl rfl rfl e56) rfl rfl (by simp only [List.map_toArray, List.map_cons, List.map_nil, Act.eval, Array.getD_eq_getD_getElem?, Option.getD_some, e57]) ?_
          refine (once_calls A7 c7 cs w' (Kd.C_below HC7.out HW.out) HOK.out (by omega)).mono ?_
          rintro e w2 ⟨he, hB⟩
          rw [HV2.out] at he
          subst he
          refine ⟨_, rfl, ?_⟩
          refine hK.out _ _ ⟨aO_, cO_, m20_, (by rw [ha.out]; exact putSel_upk 7 hb_ rfl rfl rfl), below_step HW.out hB, fun h0_ => absurd ((hoff 20 (by kernel_rfl)).symm.trans h0_) (by decide)⟩
        refine steps_cons ?_ ?_
        · rintro b a w' ⟨aO_, cO_, m20_, ha, Q_HW, Q_X20_⟩ hb_ hon hoff
          refine ⟨_, rfl, fun K hK => ?_⟩
          have e58 : a.tmps[58]? = some (.bool true) := by rw [ha]; exact putSel_on (e := (9, 58, .bool true)) 7 rfl rfl (hon 9 (by kernel_rfl)) rfl
          have e56 : a.tmps[56]? = some (.bool false) := by rw [ha]; exact putSel_on (e := (7, 56, .bool false)) 5 rfl rfl (hon 7 (by kernel_rfl)) rfl
          replace ha := Aside0.mk ha
          have HW := Aside0.mk Q_HW
          refine value_ (w1 := w') (v := .bool false) (wanted_on rfl rfl rfl (e56.trans (by first | rfl | (simp [*]; done)))) rfl ?_ ?_
          · go_simp
            (try simp only [i64_w])
            try rfl
          refine hK.out _ _ ⟨aO_, cO_, m20_, (by rw [ha.out]; exact putSel_upk 8 hb_ rfl rfl rfl), Q_HW, fun h0_ => absurd ((hoff 20 (by kernel_rfl)).symm.trans h0_) (by decide)⟩
        refine steps_cons ?_ ?_
        · rintro b a w' ⟨aO_, cO_, m20_, ha, Q_HW, Q_X20_⟩ hb_ hon hoff
          refine ⟨_, rfl, fun K hK => ?_⟩
          have e56 : a.tmps[56]? = some (.bool false) := by rw [ha]; exact putSel_on (e := (7, 56, .bool false)) 5 rfl rfl (hon 7 (by kernel_rfl)) rfl
          have e59 : a.tmps[59]? = some (.bool false) := by rw [ha]; exact putSel_on (e := (10, 59, .bool false)) 8 rfl rfl (hon 10 (by kernel_rfl)) rfl
          replace ha := Aside0.mk ha
          have HW := Aside0.mk Q_HW
          refine value_ (w1 := w') (v := .bool false) (by rfl) rfl ?_ ?_
          · go_simp
            (try simp only [i64_w])
            try rfl
          refine hK.out _ _ ⟨aO_, cO_, m20_, (by rw [ha.out]; exact putSel_upk 9 hb_ rfl rfl rfl), Q_HW, fun h0_ => absurd ((hoff 20 (by kernel_rfl)).symm.trans h0_) (by decide)⟩
        refine steps_cons ?_ ?_
        · rintro b a w' ⟨aO_, cO_, m20_, ha, Q_HW, Q_X20_⟩ hb_ hon hoff
          refine ⟨_, rfl, fun K hK => ?_⟩
          have e60 : a.tmps[60]? = some (.bool false) := by rw [ha]; exact putSel_on (e := (11, 60, .bool false)) 9 rfl rfl (hon 11 (by kernel_rfl)) rfl
          replace ha := Aside0.mk ha
          have HW := Aside0.mk Q_HW
          refine value_ (w1 := w') (v := .bool false) (by rfl) rfl ?_ ?_
          · go_simp
            (try simp only [i64_w])
            try rfl
          refine hK.out _ _ ⟨aO_, cO_, m20_, (by rw [ha.out]; exact putSel_upk 10 hb_ rfl rfl rfl), Q_HW, fun h0_ => absurd ((hoff 20 (by kernel_rfl)).symm.trans h0_) (by decide)⟩
        refine steps_cons ?_ ?_
        · rintro b a w' ⟨aO_, cO_, m20_, ha, Q_HW, Q_X20_⟩ hb_ hon hoff
          refine ⟨_, rfl, fun K hK => ?_⟩
          have e7 : a.tmps[7]? = some (.slice A7 cs.length c7) := by rw [ha]; exact (putSel_off rfl).trans rfl
          have e61 : a.tmps[61]? = some (.bool false) := by rw [ha]; exact putSel_on (e := (12, 61, .bool false)) 10 rfl rfl (hon 12 (by kernel_rfl)) rfl
          replace ha := Aside0.mk ha
          have HW := Aside0.mk Q_HW
          refine value_ (w1 := w') (v := .slice A7 cs.length c7) (wanted_on rfl rfl rfl (e61.trans (by first | rfl | (simp [*]; done)))) rfl ?_ ?_
          · go_simp
            (try simp only [i64_w])
            try rfl
          refine hK.out _ _ ⟨aO_, cO_, m20_, (by rw [ha.out]; exact putSel_upk 11 hb_ rfl rfl rfl), Q_HW, fun h0_ => absurd ((hoff 20 (by kernel_rfl)).symm.trans h0_) (by decide)⟩
        refine steps_cons ?_ ?_
        · rintro b a w' ⟨aO_, cO_, m20_, ha, Q_HW, Q_X20_⟩ hb_ hon hoff
          refine ⟨_, rfl, fun K hK => ?_⟩
          have e62 : a.tmps[62]? = some (.slice A7 cs.length c7) := by rw [ha]; exact putSel_on (e := (13, 62, .slice A7 cs.length c7)) 11 rfl rfl (hon 13 (by kernel_rfl)) rfl
          have e61 : a.tmps[61]? = some (.bool false) := by rw [ha]; exact putSel_on (e := (12, 61, .bool false)) 10 rfl rfl (hon 12 (by kernel_rfl)) rfl
          replace ha := Aside0.mk ha
          have HW := Aside0.mk Q_HW
          refine goes_ Try.func8 (by kernel_rfl) rfl #[.slice A7 cs.length c7] (wanted_on rfl rfl rfl e61) rfl rfl (by simp only [List.map_toArray, List.map_cons, List.map_nil, Act.eval, Array.getD_eq_getD_getElem?, Option.getD_some, e62]) ?_
          refine (oneway_calls A7 c7 cs w' (Kd.C_below HC7.out HW.out) HOK.out (by omega)).mono ?_
          rintro e w2 ⟨he, hB⟩
          rw [HV3.out] at he
          subst he
          refine ⟨_, rfl, ?_⟩
          refine hK.out _ _ ⟨aO_, cO_, m20_, (by rw [ha.out]; exact putSel_upk 12 hb_ rfl rfl rfl), below_step HW.out hB, fun h0_ => absurd ((hoff 20 (by kernel_rfl)).symm.trans h0_) (by decide)⟩
        refine steps_cons ?_ ?_
        · rintro b a w' ⟨aO_, cO_, m20_, ha, Q_HW, Q_X20_⟩ hb_ hon hoff
          refine ⟨_, rfl, fun K hK => ?_⟩
          have e63 : a.tmps[63]? = some (.bool true) := by rw [ha]; exact putSel_on (e := (14, 63, .bool true)) 12 rfl rfl (hon 14 (by kernel_rfl)) rfl
          have e61 : a.tmps[61]? = some (.bool false) := by rw [ha]; exact putSel_on (e := (12, 61, .bool false)) 10 rfl rfl (hon 12 (by kernel_rfl)) rfl
          replace ha := Aside0.mk ha
          have HW := Aside0.mk Q_HW
          refine value_ (w1 := w') (v := .bool false) (wanted_on rfl rfl rfl (e61.trans (by first | rfl | (simp [*]; done)))) rfl ?_ ?_
          · go_simp
            (try simp only [i64_w])
            try rfl
          refine hK.out _ _ ⟨aO_, cO_, m20_, (by rw [ha.out]; exact putSel_upk 13 hb_ rfl rfl rfl), Q_HW, fun h0_ => absurd ((hoff 20 (by kernel_rfl)).symm.trans h0_) (by decide)⟩
        refine steps_cons ?_ ?_
        · rintro b a w' ⟨aO_, cO_, m20_, ha, Q_HW, Q_X20_⟩ hb_ hon hoff
          refine ⟨_, rfl, fun K hK => ?_⟩
          have e61 : a.tmps[61]? = some (.bool false) := by rw [ha]; exact putSel_on (e := (12, 61, .bool false)) 10 rfl rfl (hon 12 (by kernel_rfl)) rfl
          have e64 : a.tmps[64]? = some (.bool false) := by rw [ha]; exact putSel_on (e := (15, 64, .bool false)) 13 rfl rfl (hon 15 (by kernel_rfl)) rfl
          replace ha := Aside0.mk ha
          have HW := Aside0.mk Q_HW
          refine value_ (w1 := w') (v := .bool false) (by rfl) rfl ?_ ?_
          · go_simp
            (try simp only [i64_w])
            try rfl
          refine hK.out _ _ ⟨aO_, cO_, m20_, (by rw [ha.out]; exact putSel_upk 14 hb_ rfl rfl rfl), Q_HW, fun h0_ => absurd ((hoff 20 (by kernel_rfl)).symm.trans h0_) (by decide)⟩
        refine steps_cons ?_ ?_
        · rintro b a w' ⟨aO_, cO_, m20_, ha, Q_HW, Q_X20_⟩ hb_ hon hoff
          refine ⟨_, rfl, fun K hK => ?_⟩
          have e65 : a.tmps[65]? = some (.bool false) := by rw [ha]; exact putSel_on (e := (16, 65, .bool false)) 14 rfl rfl (hon 16 (by kernel_rfl)) rfl
          replace ha := Aside0.mk ha
          have HW := Aside0.mk Q_HW
          refine value_ (w1 := w') (v := .bool false) (by rfl) rfl ?_ ?_
          · go_simp
            (try simp only [i64_w])
            try rfl
          refine hK.out _ _ ⟨aO_, cO_, m20_, (by rw [ha.out]; exact putSel_upk 15 hb_ rfl rfl rfl), Q_HW, fun h0_ => absurd ((hoff 20 (by kernel_rfl)).symm.trans h0_) (by decide)⟩
        refine steps_cons ?_ ?_
        · rintro b a w' ⟨aO_, cO_, m20_, ha, Q_HW, Q_X20_⟩ hb_ hon hoff
          refine ⟨_, rfl, fun K hK => ?_⟩
          have e7 : a.tmps[7]? = some (.slice A7 cs.length c7) := by rw [ha]; exact (putSel_off rfl).trans rfl
          have e66 : a.tmps[66]? = some (.bool false) := by rw [ha]; exact putSel_on (e := (17, 66, .bool false)) 15 rfl rfl (hon 17 (by kernel_rfl)) rfl
          replace ha := Aside0.mk ha
          have HW := Aside0.mk Q_HW
          refine value_ (w1 := w') (v := .slice A7 cs.length c7) (wanted_on rfl rfl rfl (e66.trans (by first | rfl | (simp [*]; done)))) rfl ?_ ?_
          · go_simp
            (try simp only [i64_w])
            try rfl
          refine hK.out _ _ ⟨aO_, cO_, m20_, (by rw [ha.out]; exact putSel_upk 16 hb_ rfl rfl rfl), Q_HW, fun h0_ => absurd ((hoff 20 (by kernel_rfl)).symm.trans h0_) (by decide)⟩
        refine steps_cons ?_ ?_
        · rintro b a w' ⟨aO_, cO_, m20_, ha, Q_HW, Q_X20_⟩ hb_ hon hoff
          refine ⟨_, rfl, fun K hK => ?_⟩
          have e5 : a.tmps[5]? = some (.pointer (some ⟨w.heap.size, 0, none⟩)) := by rw [ha]; exact (putSel_off rfl).trans rfl
          have e66 : a.tmps[66]? = some (.bool false) := by rw [ha]; exact putSel_on (e := (17, 66, .bool false)) 15 rfl rfl (hon 17 (by kernel_rfl)) rfl
          replace ha := Aside0.mk ha
          have HW := Aside0.mk Q_HW
          have q0 := cells_at HW.out (blk_cell HP.out 0)
          have q1 := cells_at HW.out (blk_cell HP.out 1)
          refine value_ (w1 := w') (v := .agg #[.int .i64 3, .int .i64 0]) (wanted_on rfl rfl rfl (e66.trans (by first | rfl | (simp [*]; done)))) rfl ?_ ?_
          · go_simp
            (try simp only [i64_w])
            try rfl
          refine hK.out _ _ ⟨aO_, cO_, m20_, (by rw [ha.out]; exact putSel_upk 17 hb_ rfl rfl rfl), Q_HW, fun h0_ => absurd ((hoff 20 (by kernel_rfl)).symm.trans h0_) (by decide)⟩
        refine steps_cons ?_ ?_
        · rintro b a w' ⟨aO_, cO_, m20_, ha, Q_HW, Q_X20_⟩ hb_ hon hoff
          refine ⟨_, rfl, fun K hK => ?_⟩
          have e67 : a.tmps[67]? = some (.slice A7 cs.length c7) := by rw [ha]; exact putSel_on (e := (18, 67, .slice A7 cs.length c7)) 16 rfl rfl (hon 18 (by kernel_rfl)) rfl
          have e68 : a.tmps[68]? = some (.agg #[.int .i64 3, .int .i64 0]) := by rw [ha]; exact putSel_on (e := (19, 68, .agg #[.int .i64 3, .int .i64 0])) 17 rfl rfl (hon 19 (by kernel_rfl)) rfl
          have e66 : a.tmps[66]? = some (.bool false) := by rw [ha]; exact putSel_on (e := (17, 66, .bool false)) 15 rfl rfl (hon 17 (by kernel_rfl)) rfl
          replace ha := Aside0.mk ha
          have HW := Aside0.mk Q_HW
          refine goes_ Try.func12 (by kernel_rfl) rfl #[.slice A7 cs.length c7, .agg #[.int .i64 3, .int .i64 0]] (wanted_on rfl rfl rfl e66) rfl rfl (by simp only [List.map_toArray, List.map_cons, List.map_nil, Act.eval, Array.getD_eq_getD_getElem?, Option.getD_some, e67, e68]) ?_
          refine (of_calls A7 c7 cs (3, 0) w' (Kd.C_below HC7.out HW.out) (by omega)).mono ?_
          rintro e w2 ⟨v, rfl, hR, hB⟩
          obtain ⟨aR, cR, rfl, hcR, hCR⟩ := Kd.R_reads hR
          rw [HV4.out]
          refine ⟨_, rfl, ?_⟩
          refine hK.out _ _ ⟨aR, cR, (.slice aR cs.length cR), (by rw [ha.out]; exact putSel_upk 18 hb_ rfl rfl rfl), below_step HW.out hB, fun _ => rfl⟩
        refine steps_cons ?_ ?_
        · rintro b a w' ⟨aO_, cO_, m20_, ha, Q_HW, Q_X20_⟩ hb_ hon hoff
          refine ⟨_, rfl, fun K hK => ?_⟩
          have e69 : a.tmps[69]? = some (m20_) := by rw [ha]; exact putSel_on (e := (20, 69, m20_)) 18 rfl rfl (hon 20 (by kernel_rfl)) rfl
          rw [Q_X20_ (hon 20 (by kernel_rfl))] at e69
          have e66 : a.tmps[66]? = some (.bool false) := by rw [ha]; exact putSel_on (e := (17, 66, .bool false)) 15 rfl rfl (hon 17 (by kernel_rfl)) rfl
          replace ha := Aside0.mk ha
          have HW := Aside0.mk Q_HW
          refine value_ (w1 := w') (v := .int .i64 (cs.length : Int)) (wanted_on rfl rfl rfl (e66.trans (by first | rfl | (simp [*]; done)))) rfl ?_ ?_
          · go_simp
            (try simp only [i64_w])
            try rfl
          refine hK.out _ _ ⟨aO_, cO_, m20_, (by rw [ha.out]; exact putSel_upk 19 hb_ rfl rfl rfl), Q_HW, Q_X20_⟩
        refine steps_cons ?_ ?_
        · rintro b a w' ⟨aO_, cO_, m20_, ha, Q_HW, Q_X20_⟩ hb_ hon hoff
          refine ⟨_, rfl, fun K hK => ?_⟩
          have e7 : a.tmps[7]? = some (.slice A7 cs.length c7) := by rw [ha]; exact (putSel_off rfl).trans rfl
          have e66 : a.tmps[66]? = some (.bool false) := by rw [ha]; exact putSel_on (e := (17, 66, .bool false)) 15 rfl rfl (hon 17 (by kernel_rfl)) rfl
          replace ha := Aside0.mk ha
          have HW := Aside0.mk Q_HW
          refine value_ (w1 := w') (v := .slice A7 cs.length c7) (wanted_on rfl rfl rfl (e66.trans (by first | rfl | (simp [*]; done)))) rfl ?_ ?_
          · go_simp
            (try simp only [i64_w])
            try rfl
          refine hK.out _ _ ⟨aO_, cO_, m20_, (by rw [ha.out]; exact putSel_upk 20 hb_ rfl rfl rfl), Q_HW, Q_X20_⟩
        refine steps_cons ?_ ?_
        · rintro b a w' ⟨aO_, cO_, m20_, ha, Q_HW, Q_X20_⟩ hb_ hon hoff
          refine ⟨_, rfl, fun K hK => ?_⟩
          have e71 : a.tmps[71]? = some (.slice A7 cs.length c7) := by rw [ha]; exact putSel_on (e := (22, 71, .slice A7 cs.length c7)) 20 rfl rfl (hon 22 (by kernel_rfl)) rfl
          have e66 : a.tmps[66]? = some (.bool false) := by rw [ha]; exact putSel_on (e := (17, 66, .bool false)) 15 rfl rfl (hon 17 (by kernel_rfl)) rfl
          replace ha := Aside0.mk ha
          have HW := Aside0.mk Q_HW
          refine value_ (w1 := w') (v := .int .i64 (cs.length : Int)) (wanted_on rfl rfl rfl (e66.trans (by first | rfl | (simp [*]; done)))) rfl ?_ ?_
          · go_simp
            (try simp only [i64_w])
            try rfl
          refine hK.out _ _ ⟨aO_, cO_, m20_, (by rw [ha.out]; exact putSel_upk 21 hb_ rfl rfl rfl), Q_HW, Q_X20_⟩
        refine steps_cons ?_ ?_
        · rintro b a w' ⟨aO_, cO_, m20_, ha, Q_HW, Q_X20_⟩ hb_ hon hoff
          refine ⟨_, rfl, fun K hK => ?_⟩
          have e70 : a.tmps[70]? = some (.int .i64 (cs.length : Int)) := by rw [ha]; exact putSel_on (e := (21, 70, .int .i64 (cs.length : Int))) 19 rfl rfl (hon 21 (by kernel_rfl)) rfl
          have e72 : a.tmps[72]? = some (.int .i64 (cs.length : Int)) := by rw [ha]; exact putSel_on (e := (23, 72, .int .i64 (cs.length : Int))) 21 rfl rfl (hon 23 (by kernel_rfl)) rfl
          have e66 : a.tmps[66]? = some (.bool false) := by rw [ha]; exact putSel_on (e := (17, 66, .bool false)) 15 rfl rfl (hon 17 (by kernel_rfl)) rfl
          replace ha := Aside0.mk ha
          have HW := Aside0.mk Q_HW
          refine value_ (w1 := w') (v := .bool false) (wanted_on rfl rfl rfl (e66.trans (by first | rfl | (simp [*]; done)))) rfl ?_ ?_
          · go_simp
            (try simp only [i64_w])
            try rfl
          refine hK.out _ _ ⟨aO_, cO_, m20_, (by rw [ha.out]; exact putSel_upk 22 hb_ rfl rfl rfl), Q_HW, Q_X20_⟩
        refine steps_cons ?_ ?_
        · rintro b a w' ⟨aO_, cO_, m20_, ha, Q_HW, Q_X20_⟩ hb_ hon hoff
          refine ⟨_, rfl, fun K hK => ?_⟩
          have e66 : a.tmps[66]? = some (.bool false) := by rw [ha]; exact putSel_on (e := (17, 66, .bool false)) 15 rfl rfl (hon 17 (by kernel_rfl)) rfl
          have e73 : a.tmps[73]? = some (.bool false) := by rw [ha]; exact putSel_on (e := (24, 73, .bool false)) 22 rfl rfl (hon 24 (by kernel_rfl)) rfl
          replace ha := Aside0.mk ha
          have HW := Aside0.mk Q_HW
          refine value_ (w1 := w') (v := .bool false) (by rfl) rfl ?_ ?_
          · go_simp
            (try simp only [i64_w])
            try rfl
          refine hK.out _ _ ⟨aO_, cO_, m20_, (by rw [ha.out]; exact putSel_upk 23 hb_ rfl rfl rfl), Q_HW, Q_X20_⟩
        exact steps_nil
      · rintro b a w' hall ⟨aO_, cO_, m20_, ha, Q_HW, Q_X20_⟩
        clear HW
        have hb1_ := hall 1 (by kernel_rfl)
        have hb3_ := hall 3 (by kernel_rfl)
        have hb4_ := hall 4 (by kernel_rfl)
        have hb5_ := hall 5 (by kernel_rfl)
        have hb6_ := hall 6 (by kernel_rfl)
        have hb7_ := hall 7 (by kernel_rfl)
        have hb8_ := hall 8 (by kernel_rfl)
        have hb9_ := hall 9 (by kernel_rfl)
        have hb10_ := hall 10 (by kernel_rfl)
        have hb11_ := hall 11 (by kernel_rfl)
        have hb12_ := hall 12 (by kernel_rfl)
        have hb13_ := hall 13 (by kernel_rfl)
        have hb14_ := hall 14 (by kernel_rfl)
        have hb15_ := hall 15 (by kernel_rfl)
        have hb16_ := hall 16 (by kernel_rfl)
        have hb17_ := hall 17 (by kernel_rfl)
        have hb18_ := hall 18 (by kernel_rfl)
        have hb19_ := hall 19 (by kernel_rfl)
        have hb20_ := hall 20 (by kernel_rfl)
        have hb21_ := hall 21 (by kernel_rfl)
        have hb22_ := hall 22 (by kernel_rfl)
        have hb23_ := hall 23 (by kernel_rfl)
        have hb24_ := hall 24 (by kernel_rfl)
        have hb25_ := hall 25 (by kernel_rfl)
        subst ha
        obtain rfl := Q_X20_ hb20_
        simp only [putSel, hb1_, hb3_, hb4_, hb5_, hb6_, hb7_, hb8_, hb9_, hb10_, hb11_, hb12_, hb13_, hb14_, hb15_, hb16_, hb17_, hb18_, hb19_, hb20_, hb21_, hb22_, hb23_, hb24_, hb25_, if_true, Act.put, List.setIfInBounds_toArray, List.set_cons_zero, List.set_cons_succ]
        have HW := Aside0.mk Q_HW
        clear Q_HW
        clear hall hb1_ hb3_ hb4_ hb5_ hb6_ hb7_ hb8_ hb9_ hb10_ hb11_ hb12_ hb13_ hb14_ hb15_ hb16_ hb17_ hb18_ hb19_ hb20_ hb21_ hb22_ hb23_ hb24_ hb25_
        go_wp2
        go_meet
        case rel => exact ⟨rfl, HW⟩
    case rest =>
      obtain ⟨rfl, HW2⟩ := hcut
      replace HC6 := Aside0.mk (cells_at HW2.out HC6.out)
      replace HC7 := Aside0.mk (Kd.C_below HC7.out HW2.out)
      replace HP := Aside0.mk (blk_below HP.out HW2.out)
      replace HB1 := Aside0.mk (below_step HB1.out HW2.out)
      clear HW HW2 HV1 HV2 HV3 HV4
      by_cases h0 : cs.length = 0
      · go_wp2_with (first | (go_at_call 3; refine (runs_calls wc).mono ?_; rintro e w2 ⟨rfl, hB⟩; have HBz := Aside0.mk (below_step HB1.out hB); clear hB))
        go_ret
        exact ⟨rfl, HBz.out⟩
      · obtain ⟨ad7, x, rfl, hx, d0, d1, d2, d3⟩ := at_Cr HC7.out 0 (by omega)
        obtain rfl : x = (r, 10, 3, 0) := by rw [tr_head HT.out h0] at hx; exact (Option.some.inj hx).symm
        simp only [Nat.zero_mul, Addr.add_zero'] at d0 d1 d2 d3
        have HX0 := Aside0.mk d0
        have HX1 := Aside0.mk d1
        have HX2 := Aside0.mk d2
        have HX3 := Aside0.mk d3
        have HN1 := Aside0.mk (tr_twice1 HT.out hbd h0)
        have HN2 := Aside0.mk (tr_back1 HT.out hbd h0)
        have HW := Aside0.mk (Below.refl wc.heap.size wc)
        clear d0 d1 d2 d3 hx
        go_upto_region 14 with fail
        go_cut [10] (fun v wx => Aside0 (Kd.R kCr 25 wx wc.heap.size (fun _ => True) v (cs ++ [(r, 10, 3, 0)])) ∧ Aside0 (Below wc.heap.size wc wx))
        case first =>
          refine start_ (n := 9) (S := fun w' => True) (ds := []) #[false, false, false, false, false, false, false, false, false] (by kernel_rfl) rfl rfl trivial (fun hHeld => ?_)
          refine with_tabW ltReg.tab14 ltReg.bits14 (fun HT_ HW_ => ?_)
          refine pure_ (i := 1) (N := some 80) (v := ?_) (a' := ?_) #[false, true, false, false, false, false, false, false, false] rfl rfl (any_of HT_.out (by kernel_rfl)) (fun _ _ _ h => h) (Or.inl ⟨by rfl, ?_⟩) ?_ ?_
          rotate_left
          · intro w'
            go_simp
            with_reducible rfl
          rotate_left
          · simp only [Act.put, List.setIfInBounds_toArray, List.set_cons_zero, List.set_cons_succ, i64_w, i32_w]
            rfl
          refine pure_ (i := 3) (N := some 82) (v := ?_) (a' := ?_) #[false, true, false, true, false, false, false, false, false] rfl rfl (any_of HT_.out (by kernel_rfl)) (fun _ _ _ h => h) (Or.inl ⟨by rfl, ?_⟩) ?_ ?_
          rotate_left
          · intro w'
            go_simp
            with_reducible rfl
          rotate_left
          · simp only [Act.put, List.setIfInBounds_toArray, List.set_cons_zero, List.set_cons_succ, i64_w, i32_w]
            rfl
          refine inv_at [0, 2, 4, 5, 6, 7, 8] (fun a0_ b a w' => ∃ (b0_ : Nat) (b6_ : Nat) (s2_ : Value) (s7_ : Value) (m0_ : Value) (m6_ : Value) (m8_ : Value), a = putSel a0_ b [(0, 79, m0_), (2, 81, s2_), (4, 83, .pointer (some ad7)), (5, 84, .agg #[.int .i64 r, .int .i64 10, .int .i64 3, .int .i64 0]), (6, 85, m6_), (7, 86, s7_), (8, 10, m8_)] ∧ (Below wc.heap.size wc w') ∧ (b 0 = true → b 2 = false → Kd.R kCr 25 w' wc.heap.size (fun _ => True) (.slice (some ⟨b0_, 0, none⟩) 0 0) ([])) ∧ (b 6 = true → b 7 = false → w'.heap[b6_]? = some (.cells #[.int .i64 r, .int .i64 10, .int .i64 3, .int .i64 0] 25 (0, 0))) ∧ (b 0 = true → b 6 = true → b 2 = false → b0_ ≠ b6_) ∧ (b 2 = true → b 7 = false → Kd.R kCr 25 w' wc.heap.size (fun _ => True) (s2_) (cs)) ∧ (b 7 = true → Kd.R kCr 25 w' wc.heap.size (fun _ => True) (s7_) (cs ++ [(r, 10, 3, 0)])) ∧ (b 0 = true → (m0_ : Value) = .slice (some ⟨b0_, 0, none⟩) 0 0) ∧ (b 6 = true → (m6_ : Value) = .slice (some ⟨b6_, 0, none⟩) 1 1) ∧ (b 8 = true → (m8_ : Value) = s7_)) HT_.out HW_.out (by kernel_rfl) (by kernel_rfl) ?_ ?_ ?_
          · exact ⟨0, 0, .bool false, .bool false, .bool false, .bool false, .bool false, by simp only [putSel, Bool.false_eq_true, if_false], below_drew HW.out, fun h_ => absurd h_ (by decide), fun h_ => absurd h_ (by decide), fun h_ => absurd h_ (by decide), fun h_ => absurd h_ (by decide), fun h_ => absurd h_ (by decide), fun h_ => absurd h_ (by decide), fun h_ => absurd h_ (by decide), fun h_ => absurd h_ (by decide)⟩
          · skip
            clear HW
            refine steps_cons ?_ ?_
            · rintro b a w' ⟨b0_, b6_, s2_, s7_, m0_, m6_, m8_, ha, Q_HW, Q_H0, Q_HS, Q_HN, Q_H2, Q_H9, Q_X0_, Q_X6_, Q_X8_⟩ hb_ hon hoff
              refine ⟨_, rfl, fun K hK => ?_⟩
              replace ha := Aside0.mk ha
              have HW := Aside0.mk Q_HW
              refine value_ (w1 := w'.alloc (.cells #[] 25)) (v := .slice (some ⟨w'.heap.size, 0, none⟩) 0 0) (by rfl) rfl (by go_simp) ?_
              refine hK.out _ _ ⟨w'.heap.size, b6_, s2_, s7_, (.slice (some ⟨w'.heap.size, 0, none⟩) 0 0), m6_, m8_, (by rw [ha.out]; exact putSel_upk 0 hb_ rfl rfl rfl), below_alloc HW.out _, fun _ _ => Kd.R_lower (own_emptyCr w') HW.out.size, fun h0_ h1_ => blk_alloc (Q_HS h0_ h1_) _, fun _ _ _ => (Nat.ne_of_gt (blk_lt (Q_HS (by assumption) (hoff 7 (by kernel_rfl))))), fun h0_ _ => absurd ((hoff 2 (by kernel_rfl)).symm.trans h0_) (by decide), fun h0_ => absurd ((hoff 7 (by kernel_rfl)).symm.trans h0_) (by decide), fun _ => rfl, Q_X6_, fun h0_ => absurd ((hoff 8 (by kernel_rfl)).symm.trans h0_) (by decide)⟩
            refine steps_cons ?_ ?_
            · rintro b a w' ⟨b0_, b6_, s2_, s7_, m0_, m6_, m8_, ha, Q_HW, Q_H0, Q_HS, Q_HN, Q_H2, Q_H9, Q_X0_, Q_X6_, Q_X8_⟩ hb_ hon hoff
              refine ⟨_, rfl, fun K hK => ?_⟩
              have e79 : a.tmps[79]? = some (m0_) := by rw [ha]; exact putSel_on (e := (0, 79, m0_)) 0 rfl rfl (hon 0 (by kernel_rfl)) rfl
              rw [Q_X0_ (hon 0 (by kernel_rfl))] at e79
              have e80 : a.tmps[80]? = some (.slice (some ad7) cs.length c7) := by rw [ha]; exact (putSel_off rfl).trans rfl
              replace ha := Aside0.mk ha
              have HW := Aside0.mk Q_HW
              have H0 := Aside0.mk (Q_H0 (hon 0 (by kernel_rfl)) hb_)
              refine cat_step kCr flatKM wc w' wc.heap.size (by rfl) (.tmp 79) (.tmp 80) 27 25 (.agg #[.int .i64 0, .int .i64 0, .int .i64 0, .int .i64 0]) 32 rfl Try.underlying27 infoCr rfl (by decide) (by omega) (.slice (some ⟨b0_, 0, none⟩) 0 0) ([]) (cs) (some ad7) (cs.length) (c7) (eval_of e79) (eval_of e80) (H0.out) (Kd.C_below HC7.out HW.out) HW.out HW.out.size (by simp; omega) ?_
              intro v1 w1 ho hb hg
              rw [List.nil_append] at ho
              refine hK.out _ _ ⟨b0_, b6_, v1, s7_, m0_, m6_, m8_, (by rw [ha.out]; exact putSel_upk 1 hb_ rfl rfl rfl), hb, fun _ h1_ => absurd ((up_self b 2).symm.trans h1_) (by decide), fun h0_ h1_ => blk_grown (Q_HS h0_ h1_) hg (own_ne (Q_HN (hon 0 (by kernel_rfl)) h0_ hb_)), fun _ _ h2_ => absurd ((up_self b 2).symm.trans h2_) (by decide), fun _ _ => ho, fun h0_ => absurd ((hoff 7 (by kernel_rfl)).symm.trans h0_) (by decide), Q_X0_, Q_X6_, fun h0_ => absurd ((hoff 8 (by kernel_rfl)).symm.trans h0_) (by decide)⟩
            refine steps_cons ?_ ?_
            · rintro b a w' ⟨b0_, b6_, s2_, s7_, m0_, m6_, m8_, ha, Q_HW, Q_H0, Q_HS, Q_HN, Q_H2, Q_H9, Q_X0_, Q_X6_, Q_X8_⟩ hb_ hon hoff
              refine ⟨_, rfl, fun K hK => ?_⟩
              have e82 : a.tmps[82]? = some (.slice (some ad7) cs.length c7) := by rw [ha]; exact (putSel_off rfl).trans rfl
              replace ha := Aside0.mk ha
              have HW := Aside0.mk Q_HW
              have hb1 : (0 : Int) < (cs.length : Int) := by omega
              refine value_ (w1 := w') (v := .pointer (some ad7)) (by rfl) rfl ?_ ?_
              · go_simp
                (try simp only [i64_w])
                try rfl
              refine hK.out _ _ ⟨b0_, b6_, s2_, s7_, m0_, m6_, m8_, (by rw [ha.out]; exact putSel_upk 2 hb_ rfl rfl rfl), Q_HW, Q_H0, fun h0_ _ => absurd ((hoff 6 (by kernel_rfl)).symm.trans h0_) (by decide), fun _ h1_ _ => absurd ((hoff 6 (by kernel_rfl)).symm.trans h1_) (by decide), Q_H2, fun h0_ => absurd ((hoff 7 (by kernel_rfl)).symm.trans h0_) (by decide), Q_X0_, fun h0_ => absurd ((hoff 6 (by kernel_rfl)).symm.trans h0_) (by decide), fun h0_ => absurd ((hoff 8 (by kernel_rfl)).symm.trans h0_) (by decide)⟩
            refine steps_cons ?_ ?_
            · rintro b a w' ⟨b0_, b6_, s2_, s7_, m0_, m6_, m8_, ha, Q_HW, Q_H0, Q_HS, Q_HN, Q_H2, Q_H9, Q_X0_, Q_X6_, Q_X8_⟩ hb_ hon hoff
              refine ⟨_, rfl, fun K hK => ?_⟩
              have e83 : a.tmps[83]? = some (.pointer (some ad7)) := by rw [ha]; exact putSel_on (e := (4, 83, .pointer (some ad7))) 2 rfl rfl (hon 4 (by kernel_rfl)) rfl
              replace ha := Aside0.mk ha
              have HW := Aside0.mk Q_HW
              have q0 := cells_at HW.out HX0.out
              have q1 := cells_at HW.out HX1.out
              have q2 := cells_at HW.out HX2.out
              have q3 := cells_at HW.out HX3.out
              refine value_ (w1 := w') (v := .agg #[.int .i64 r, .int .i64 10, .int .i64 3, .int .i64 0]) (by rfl) rfl ?_ ?_
              · go_simp
                (try simp only [i64_w])
                try rfl
              refine hK.out _ _ ⟨b0_, b6_, s2_, s7_, m0_, m6_, m8_, (by rw [ha.out]; exact putSel_upk 3 hb_ rfl rfl rfl), Q_HW, Q_H0, fun h0_ _ => absurd ((hoff 6 (by kernel_rfl)).symm.trans h0_) (by decide), fun _ h1_ _ => absurd ((hoff 6 (by kernel_rfl)).symm.trans h1_) (by decide), Q_H2, fun h0_ => absurd ((hoff 7 (by kernel_rfl)).symm.trans h0_) (by decide), Q_X0_, fun h0_ => absurd ((hoff 6 (by kernel_rfl)).symm.trans h0_) (by decide), fun h0_ => absurd ((hoff 8 (by kernel_rfl)).symm.trans h0_) (by decide)⟩
            refine steps_cons ?_ ?_
            · rintro b a w' ⟨b0_, b6_, s2_, s7_, m0_, m6_, m8_, ha, Q_HW, Q_H0, Q_HS, Q_HN, Q_H2, Q_H9, Q_X0_, Q_X6_, Q_X8_⟩ hb_ hon hoff
              refine ⟨_, rfl, fun K hK => ?_⟩
              have e84 : a.tmps[84]? = some (.agg #[.int .i64 r, .int .i64 10, .int .i64 3, .int .i64 0]) := by rw [ha]; exact putSel_on (e := (5, 84, .agg #[.int .i64 r, .int .i64 10, .int .i64 3, .int .i64 0])) 3 rfl rfl (hon 5 (by kernel_rfl)) rfl
              replace ha := Aside0.mk ha
              have HW := Aside0.mk Q_HW
              refine value_ (w1 := w'.alloc (.cells #[.int .i64 r, .int .i64 10, .int .i64 3, .int .i64 0] 25)) (v := .slice (some ⟨w'.heap.size, 0, none⟩) 1 1) (by rfl) rfl (by go_simp) ?_
              refine hK.out _ _ ⟨b0_, w'.heap.size, s2_, s7_, m0_, (.slice (some ⟨w'.heap.size, 0, none⟩) 1 1), m8_, (by rw [ha.out]; exact putSel_upk 4 hb_ rfl rfl rfl), below_alloc HW.out _, fun h0_ h1_ => Kd.R_alloc (Q_H0 h0_ h1_) _, fun _ _ => blk_new w' _, fun _ _ _ => (Nat.ne_of_lt (Kd.R_lt (Q_H0 (by assumption) (by assumption)) _ rfl)), fun h0_ h1_ => Kd.R_alloc (Q_H2 h0_ h1_) _, fun h0_ => absurd ((hoff 7 (by kernel_rfl)).symm.trans h0_) (by decide), Q_X0_, fun _ => rfl, fun h0_ => absurd ((hoff 8 (by kernel_rfl)).symm.trans h0_) (by decide)⟩
            refine steps_cons ?_ ?_
            · rintro b a w' ⟨b0_, b6_, s2_, s7_, m0_, m6_, m8_, ha, Q_HW, Q_H0, Q_HS, Q_HN, Q_H2, Q_H9, Q_X0_, Q_X6_, Q_X8_⟩ hb_ hon hoff
              refine ⟨_, rfl, fun K hK => ?_⟩
              have e81 : a.tmps[81]? = some (s2_) := by rw [ha]; exact putSel_on (e := (2, 81, s2_)) 1 rfl rfl (hon 2 (by kernel_rfl)) rfl
              have e85 : a.tmps[85]? = some (m6_) := by rw [ha]; exact putSel_on (e := (6, 85, m6_)) 4 rfl rfl (hon 6 (by kernel_rfl)) rfl
              rw [Q_X6_ (hon 6 (by kernel_rfl))] at e85
              replace ha := Aside0.mk ha
              have HW := Aside0.mk Q_HW
              have HS := Aside0.mk (Q_HS (hon 6 (by kernel_rfl)) hb_)
              have H2 := Aside0.mk (Q_H2 (hon 2 (by kernel_rfl)) hb_)
              refine cat_step kCr flatKM wc w' wc.heap.size (by rfl) (.tmp 81) (.tmp 85) 27 25 (.agg #[.int .i64 0, .int .i64 0, .int .i64 0, .int .i64 0]) 32 rfl Try.underlying27 infoCr rfl (by decide) (by omega) (s2_) (cs) ([(r, 10, 3, 0)]) (some ⟨b6_, 0, none⟩) (1) (1) (eval_of e81) (eval_of e85) (H2.out) (C_flat_block (xs := [(r, 10, 3, 0)]) HS.out (by simp)) HW.out HW.out.size (by omega) ?_
              intro v1 w1 ho hb hg
              refine hK.out _ _ ⟨b0_, b6_, s2_, v1, m0_, m6_, m8_, (by rw [ha.out]; exact putSel_upk 5 hb_ rfl rfl rfl), hb, fun _ h1_ => absurd ((hon 2 (by kernel_rfl)).symm.trans h1_) (by decide), fun _ h1_ => absurd ((up_self b 7).symm.trans h1_) (by decide), fun _ _ h2_ => absurd ((hon 2 (by kernel_rfl)).symm.trans h2_) (by decide), fun _ h1_ => absurd ((up_self b 7).symm.trans h1_) (by decide), fun _ => ho, Q_X0_, Q_X6_, fun h0_ => absurd ((hoff 8 (by kernel_rfl)).symm.trans h0_) (by decide)⟩
            refine steps_cons ?_ ?_
            · rintro b a w' ⟨b0_, b6_, s2_, s7_, m0_, m6_, m8_, ha, Q_HW, Q_H0, Q_HS, Q_HN, Q_H2, Q_H9, Q_X0_, Q_X6_, Q_X8_⟩ hb_ hon hoff
              refine ⟨_, rfl, fun K hK => ?_⟩
              have e86 : a.tmps[86]? = some (s7_) := by rw [ha]; exact putSel_on (e := (7, 86, s7_)) 5 rfl rfl (hon 7 (by kernel_rfl)) rfl
              replace ha := Aside0.mk ha
              have HW := Aside0.mk Q_HW
              have H9 := Aside0.mk (Q_H9 (hon 7 (by kernel_rfl)))
              refine value_ (w1 := w') (v := s7_) (by rfl) rfl ?_ ?_
              · go_simp
                (try simp only [i64_w])
                try rfl
              refine hK.out _ _ ⟨b0_, b6_, s2_, s7_, m0_, m6_, (s7_), (by rw [ha.out]; exact putSel_upk 6 hb_ rfl rfl rfl), Q_HW, fun _ h1_ => absurd ((hon 2 (by kernel_rfl)).symm.trans h1_) (by decide), fun _ h1_ => absurd ((hon 7 (by kernel_rfl)).symm.trans h1_) (by decide), fun _ _ h2_ => absurd ((hon 2 (by kernel_rfl)).symm.trans h2_) (by decide), fun _ h1_ => absurd ((hon 7 (by kernel_rfl)).symm.trans h1_) (by decide), Q_H9, Q_X0_, Q_X6_, fun _ => rfl⟩
            exact steps_nil
          · rintro b a w' hall ⟨b0_, b6_, s2_, s7_, m0_, m6_, m8_, ha, Q_HW, Q_H0, Q_HS, Q_HN, Q_H2, Q_H9, Q_X0_, Q_X6_, Q_X8_⟩
            clear HW
            have hb0_ := hall 0 (by kernel_rfl)
            have hb2_ := hall 2 (by kernel_rfl)
            have hb4_ := hall 4 (by kernel_rfl)
            have hb5_ := hall 5 (by kernel_rfl)
            have hb6_ := hall 6 (by kernel_rfl)
            have hb7_ := hall 7 (by kernel_rfl)
            have hb8_ := hall 8 (by kernel_rfl)
            subst ha
            obtain rfl := Q_X0_ hb0_
            obtain rfl := Q_X6_ hb6_
            obtain rfl := Q_X8_ hb8_
            simp only [putSel, hb0_, hb2_, hb4_, hb5_, hb6_, hb7_, hb8_, if_true, Act.put, List.setIfInBounds_toArray, List.set_cons_zero, List.set_cons_succ]
            have HW := Aside0.mk Q_HW
            clear Q_HW
            clear Q_H0
            clear Q_HS
            clear Q_HN
            clear Q_H2
            have H9 := Aside0.mk (Q_H9 hb7_)
            clear Q_H9
            clear hall hb0_ hb2_ hb4_ hb5_ hb6_ hb7_ hb8_
            go_wp2
            go_meet
            case rel => exact ⟨H9, HW⟩
        case rest =>
          obtain ⟨H10, HW2⟩ := hcut
          replace HC6 := Aside0.mk (cells_at HW2.out HC6.out)
          replace HC7 := Aside0.mk (Kd.C_below HC7.out HW2.out)
          replace HP := Aside0.mk (blk_below HP.out HW2.out)
          replace HB1 := Aside0.mk (below_step HB1.out HW2.out)
          replace HX0 := Aside0.mk (cells_at HW2.out HX0.out)
          replace HX1 := Aside0.mk (cells_at HW2.out HX1.out)
          clear HX2 HX3 HW HW2
          have hl10 : (cs ++ [(r, 10, 3, 0)]).length ≤ 10 := by simp; omega
          have HOKt : Aside0 (∀ x ∈ cs ++ [(r, 10, 3, 0)], CrOk x) := ⟨fun x hx => by
            rcases List.mem_append.1 hx with hx | hx
            · exact HOK.out x hx
            · simp only [List.mem_singleton] at hx
              subst hx
              exact crOk (by omega)⟩
          have HT1 := Lib.hid HN1.out.1
          have HT2 := Lib.hid HN1.out.2
          clear HN1
          generalize cs ++ [(r, 10, 3, 0)] = tw at *
          obtain ⟨A10, c10, rfl, hc10, hC10⟩ := Kd.R_reads H10.out
          have HC10 := Aside0.mk hC10
          have HW := Aside0.mk (Below.refl wc.heap.size wc)
          clear H10 hc10 hC10
          go_upto_region 15 with fail
          go_cut [11] (fun v wx => Aside0 (Kd.R kCr 25 wx wc.heap.size (fun _ => True) v (cs ++ [(10, r, 3, 0)])) ∧ Aside0 (Below wc.heap.size wc wx))
          case first =>
            refine start_ (n := 16) (S := fun w' => True) (ds := []) #[false, false, false, false, false, false, false, false, false, false, false, false, false, false, false, false] (by kernel_rfl) rfl rfl trivial (fun hHeld => ?_)
            refine with_tabW ltReg.tab15 ltReg.bits15 (fun HT_ HW_ => ?_)
            refine pure_ (i := 1) (N := some 88) (v := ?_) (a' := ?_) #[false, true, false, false, false, false, false, false, false, false, false, false, false, false, false, false] rfl rfl (any_of HT_.out (by kernel_rfl)) (fun _ _ _ h => h) (Or.inl ⟨by rfl, ?_⟩) ?_ ?_
            rotate_left
            · intro w'
              go_simp
              with_reducible rfl
            rotate_left
            · simp only [Act.put, List.setIfInBounds_toArray, List.set_cons_zero, List.set_cons_succ, i64_w, i32_w]
              rfl
            refine pure_ (i := 3) (N := some 90) (v := ?_) (a' := ?_) #[false, true, false, true, false, false, false, false, false, false, false, false, false, false, false, false] rfl rfl (any_of HT_.out (by kernel_rfl)) (fun _ _ _ h => h) (Or.inl ⟨by rfl, ?_⟩) ?_ ?_
            rotate_left
            · intro w'
              go_simp
              with_reducible rfl
            rotate_left
            · simp only [Act.put, List.setIfInBounds_toArray, List.set_cons_zero, List.set_cons_succ, i64_w, i32_w]
              rfl
            refine pure_ (i := 7) (N := some 94) (v := ?_) (a' := ?_) #[false, true, false, true, false, false, false, true, false, false, false, false, false, false, false, false] rfl rfl (any_of HT_.out (by kernel_rfl)) (fun _ _ _ h => h) (Or.inl ⟨by rfl, ?_⟩) ?_ ?_
            rotate_left
            · intro w'
              go_simp
              with_reducible rfl
            rotate_left
            · simp only [Act.put, List.setIfInBounds_toArray, List.set_cons_zero, List.set_cons_succ, i64_w, i32_w]
              rfl
            refine inv_at [0, 2, 4, 5, 6, 8, 9, 10, 11, 12, 13, 14, 15] (fun a0_ b a w' => ∃ (b0_ : Nat) (b6_ : Nat) (s2_ : Value) (s7_ : Value) (m0_ : Value) (m13_ : Value) (m15_ : Value), a = putSel a0_ b [(0, 87, m0_), (2, 89, s2_), (4, 91, .pointer (some ad7)), (5, 92, .pointer (some ⟨ad7.block, ad7.off + 1, none⟩)), (6, 93, .int .i64 10), (8, 95, .pointer (some ad7)), (9, 96, .pointer (some ad7)), (10, 97, .int .i64 r), (11, 98, .agg #[.int .i64 3, .int .i64 0]), (12, 99, .agg #[.int .i64 10, .int .i64 r, .int .i64 3, .int .i64 0]), (13, 100, m13_), (14, 101, s7_), (15, 11, m15_)] ∧ (Below wc.heap.size wc w') ∧ (b 0 = true → b 2 = false → Kd.R kCr 25 w' wc.heap.size (fun _ => True) (.slice (some ⟨b0_, 0, none⟩) 0 0) ([])) ∧ (b 13 = true → b 14 = false → w'.heap[b6_]? = some (.cells #[.int .i64 10, .int .i64 r, .int .i64 3, .int .i64 0] 25 (0, 0))) ∧ (b 0 = true → b 13 = true → b 2 = false → b0_ ≠ b6_) ∧ (b 2 = true → b 14 = false → Kd.R kCr 25 w' wc.heap.size (fun _ => True) (s2_) (cs)) ∧ (b 14 = true → Kd.R kCr 25 w' wc.heap.size (fun _ => True) (s7_) (cs ++ [(10, r, 3, 0)])) ∧ (b 0 = true → (m0_ : Value) = .slice (some ⟨b0_, 0, none⟩) 0 0) ∧ (b 13 = true → (m13_ : Value) = .slice (some ⟨b6_, 0, none⟩) 1 1) ∧ (b 15 = true → (m15_ : Value) = s7_)) HT_.out HW_.out (by kernel_rfl) (by kernel_rfl) ?_ ?_ ?_
            · exact ⟨0, 0, .bool false, .bool false, .bool false, .bool false, .bool false, by simp only [putSel, Bool.false_eq_true, if_false], below_drew HW.out, fun h_ => absurd h_ (by decide), fun h_ => absurd h_ (by decide), fun h_ => absurd h_ (by decide), fun h_ => absurd h_ (by decide), fun h_ => absurd h_ (by decide), fun h_ => absurd h_ (by decide), fun h_ => absurd h_ (by decide), fun h_ => absurd h_ (by decide)⟩
            · skip
              clear HW
              refine steps_cons ?_ ?_
              · rintro b a w' ⟨b0_, b6_, s2_, s7_, m0_, m13_, m15_, ha, Q_HW, Q_H0, Q_HS, Q_HN, Q_H2, Q_H9, Q_X0_, Q_X13_, Q_X15_⟩ hb_ hon hoff
                refine ⟨_, rfl, fun K hK => ?_⟩
                replace ha := Aside0.mk ha
                have HW := Aside0.mk Q_HW
                refine value_ (w1 := w'.alloc (.cells #[] 25)) (v := .slice (some ⟨w'.heap.size, 0, none⟩) 0 0) (by rfl) rfl (by go_simp) ?_
                refine hK.out _ _ ⟨w'.heap.size, b6_, s2_, s7_, (.slice (some ⟨w'.heap.size, 0, none⟩) 0 0), m13_, m15_, (by rw [ha.out]; exact putSel_upk 0 hb_ rfl rfl rfl), below_alloc HW.out _, fun _ _ => Kd.R_lower (own_emptyCr w') HW.out.size, fun h0_ h1_ => blk_alloc (Q_HS h0_ h1_) _, fun _ _ _ => (Nat.ne_of_gt (blk_lt (Q_HS (by assumption) (hoff 14 (by kernel_rfl))))), fun h0_ _ => absurd ((hoff 2 (by kernel_rfl)).symm.trans h0_) (by decide), fun h0_ => absurd ((hoff 14 (by kernel_rfl)).symm.trans h0_) (by decide), fun _ => rfl, Q_X13_, fun h0_ => absurd ((hoff 15 (by kernel_rfl)).symm.trans h0_) (by decide)⟩
              refine steps_cons ?_ ?_
              · rintro b a w' ⟨b0_, b6_, s2_, s7_, m0_, m13_, m15_, ha, Q_HW, Q_H0, Q_HS, Q_HN, Q_H2, Q_H9, Q_X0_, Q_X13_, Q_X15_⟩ hb_ hon hoff
                refine ⟨_, rfl, fun K hK => ?_⟩
                have e87 : a.tmps[87]? = some (m0_) := by rw [ha]; exact putSel_on (e := (0, 87, m0_)) 0 rfl rfl (hon 0 (by kernel_rfl)) rfl
                rw [Q_X0_ (hon 0 (by kernel_rfl))] at e87
                have e88 : a.tmps[88]? = some (.slice (some ad7) cs.length c7) := by rw [ha]; exact (putSel_off rfl).trans rfl
                replace ha := Aside0.mk ha
                have HW := Aside0.mk Q_HW
                have H0 := Aside0.mk (Q_H0 (hon 0 (by kernel_rfl)) hb_)
                refine cat_step kCr flatKM wc w' wc.heap.size (by rfl) (.tmp 87) (.tmp 88) 27 25 (.agg #[.int .i64 0, .int .i64 0, .int .i64 0, .int .i64 0]) 32 rfl Try.underlying27 infoCr rfl (by decide) (by omega) (.slice (some ⟨b0_, 0, none⟩) 0 0) ([]) (cs) (some ad7) (cs.length) (c7) (eval_of e87) (eval_of e88) (H0.out) (Kd.C_below HC7.out HW.out) HW.out HW.out.size (by simp; omega) ?_
                intro v1 w1 ho hb hg
                rw [List.nil_append] at ho
                refine hK.out _ _ ⟨b0_, b6_, v1, s7_, m0_, m13_, m15_, (by rw [ha.out]; exact putSel_upk 1 hb_ rfl rfl rfl), hb, fun _ h1_ => absurd ((up_self b 2).symm.trans h1_) (by decide), fun h0_ h1_ => blk_grown (Q_HS h0_ h1_) hg (own_ne (Q_HN (hon 0 (by kernel_rfl)) h0_ hb_)), fun _ _ h2_ => absurd ((up_self b 2).symm.trans h2_) (by decide), fun _ _ => ho, fun h0_ => absurd ((hoff 14 (by kernel_rfl)).symm.trans h0_) (by decide), Q_X0_, Q_X13_, fun h0_ => absurd ((hoff 15 (by kernel_rfl)).symm.trans h0_) (by decide)⟩
              refine steps_cons ?_ ?_
              · rintro b a w' ⟨b0_, b6_, s2_, s7_, m0_, m13_, m15_, ha, Q_HW, Q_H0, Q_HS, Q_HN, Q_H2, Q_H9, Q_X0_, Q_X13_, Q_X15_⟩ hb_ hon hoff
                refine ⟨_, rfl, fun K hK => ?_⟩
                have e90 : a.tmps[90]? = some (.slice (some ad7) cs.length c7) := by rw [ha]; exact (putSel_off rfl).trans rfl
                replace ha := Aside0.mk ha
                have HW := Aside0.mk Q_HW
                have hb1 : (0 : Int) < (cs.length : Int) := by omega
                refine value_ (w1 := w') (v := .pointer (some ad7)) (by rfl) rfl ?_ ?_
                · go_simp
                  (try simp only [i64_w])
                  try rfl
                refine hK.out _ _ ⟨b0_, b6_, s2_, s7_, m0_, m13_, m15_, (by rw [ha.out]; exact putSel_upk 2 hb_ rfl rfl rfl), Q_HW, Q_H0, fun h0_ _ => absurd ((hoff 13 (by kernel_rfl)).symm.trans h0_) (by decide), fun _ h1_ _ => absurd ((hoff 13 (by kernel_rfl)).symm.trans h1_) (by decide), Q_H2, fun h0_ => absurd ((hoff 14 (by kernel_rfl)).symm.trans h0_) (by decide), Q_X0_, fun h0_ => absurd ((hoff 13 (by kernel_rfl)).symm.trans h0_) (by decide), fun h0_ => absurd ((hoff 15 (by kernel_rfl)).symm.trans h0_) (by decide)⟩
              refine steps_cons ?_ ?_
              · rintro b a w' ⟨b0_, b6_, s2_, s7_, m0_, m13_, m15_, ha, Q_HW, Q_H0, Q_HS, Q_HN, Q_H2, Q_H9, Q_X0_, Q_X13_, Q_X15_⟩ hb_ hon hoff
                refine ⟨_, rfl, fun K hK => ?_⟩
                have e91 : a.tmps[91]? = some (.pointer (some ad7)) := by rw [ha]; exact putSel_on (e := (4, 91, .pointer (some ad7))) 2 rfl rfl (hon 4 (by kernel_rfl)) rfl
                replace ha := Aside0.mk ha
                have HW := Aside0.mk Q_HW
                refine value_ (w1 := w') (v := .pointer (some ⟨ad7.block, ad7.off + 1, none⟩)) (by rfl) rfl ?_ ?_
                · go_simp
                  (try simp only [i64_w])
                  try rfl
                refine hK.out _ _ ⟨b0_, b6_, s2_, s7_, m0_, m13_, m15_, (by rw [ha.out]; exact putSel_upk 3 hb_ rfl rfl rfl), Q_HW, Q_H0, fun h0_ _ => absurd ((hoff 13 (by kernel_rfl)).symm.trans h0_) (by decide), fun _ h1_ _ => absurd ((hoff 13 (by kernel_rfl)).symm.trans h1_) (by decide), Q_H2, fun h0_ => absurd ((hoff 14 (by kernel_rfl)).symm.trans h0_) (by decide), Q_X0_, fun h0_ => absurd ((hoff 13 (by kernel_rfl)).symm.trans h0_) (by decide), fun h0_ => absurd ((hoff 15 (by kernel_rfl)).symm.trans h0_) (by decide)⟩
              refine steps_cons ?_ ?_
              · rintro b a w' ⟨b0_, b6_, s2_, s7_, m0_, m13_, m15_, ha, Q_HW, Q_H0, Q_HS, Q_HN, Q_H2, Q_H9, Q_X0_, Q_X13_, Q_X15_⟩ hb_ hon hoff
                refine ⟨_, rfl, fun K hK => ?_⟩
                have e92 : a.tmps[92]? = some (.pointer (some ⟨ad7.block, ad7.off + 1, none⟩)) := by rw [ha]; exact putSel_on (e := (5, 92, .pointer (some ⟨ad7.block, ad7.off + 1, none⟩))) 3 rfl rfl (hon 5 (by kernel_rfl)) rfl
                replace ha := Aside0.mk ha
                have HW := Aside0.mk Q_HW
                have q1 := cells_at HW.out HX1.out
                refine value_ (w1 := w') (v := .int .i64 10) (by rfl) rfl ?_ ?_
                · go_simp
                  (try simp only [i64_w])
                  try rfl
                refine hK.out _ _ ⟨b0_, b6_, s2_, s7_, m0_, m13_, m15_, (by rw [ha.out]; exact putSel_upk 4 hb_ rfl rfl rfl), Q_HW, Q_H0, fun h0_ _ => absurd ((hoff 13 (by kernel_rfl)).symm.trans h0_) (by decide), fun _ h1_ _ => absurd ((hoff 13 (by kernel_rfl)).symm.trans h1_) (by decide), Q_H2, fun h0_ => absurd ((hoff 14 (by kernel_rfl)).symm.trans h0_) (by decide), Q_X0_, fun h0_ => absurd ((hoff 13 (by kernel_rfl)).symm.trans h0_) (by decide), fun h0_ => absurd ((hoff 15 (by kernel_rfl)).symm.trans h0_) (by decide)⟩
              refine steps_cons ?_ ?_
              · rintro b a w' ⟨b0_, b6_, s2_, s7_, m0_, m13_, m15_, ha, Q_HW, Q_H0, Q_HS, Q_HN, Q_H2, Q_H9, Q_X0_, Q_X13_, Q_X15_⟩ hb_ hon hoff
                refine ⟨_, rfl, fun K hK => ?_⟩
                have e94 : a.tmps[94]? = some (.slice (some ad7) cs.length c7) := by rw [ha]; exact (putSel_off rfl).trans rfl
                replace ha := Aside0.mk ha
                have HW := Aside0.mk Q_HW
                have hb1 : (0 : Int) < (cs.length : Int) := by omega
                refine value_ (w1 := w') (v := .pointer (some ad7)) (by rfl) rfl ?_ ?_
                · go_simp
                  (try simp only [i64_w])
                  try rfl
                refine hK.out _ _ ⟨b0_, b6_, s2_, s7_, m0_, m13_, m15_, (by rw [ha.out]; exact putSel_upk 5 hb_ rfl rfl rfl), Q_HW, Q_H0, fun h0_ _ => absurd ((hoff 13 (by kernel_rfl)).symm.trans h0_) (by decide), fun _ h1_ _ => absurd ((hoff 13 (by kernel_rfl)).symm.trans h1_) (by decide), Q_H2, fun h0_ => absurd ((hoff 14 (by kernel_rfl)).symm.trans h0_) (by decide), Q_X0_, fun h0_ => absurd ((hoff 13 (by kernel_rfl)).symm.trans h0_) (by decide), fun h0_ => absurd ((hoff 15 (by kernel_rfl)).symm.trans h0_) (by decide)⟩
              refine steps_cons ?_ ?_
              · rintro b a w' ⟨b0_, b6_, s2_, s7_, m0_, m13_, m15_, ha, Q_HW, Q_H0, Q_HS, Q_HN, Q_H2, Q_H9, Q_X0_, Q_X13_, Q_X15_⟩ hb_ hon hoff
                refine ⟨_, rfl, fun K hK => ?_⟩
                have e95 : a.tmps[95]? = some (.pointer (some ad7)) := by rw [ha]; exact putSel_on (e := (8, 95, .pointer (some ad7))) 5 rfl rfl (hon 8 (by kernel_rfl)) rfl
                replace ha := Aside0.mk ha
                have HW := Aside0.mk Q_HW
                refine value_ (w1 := w') (v := .pointer (some ad7)) (by rfl) rfl ?_ ?_
                · go_simp
                  (try simp only [i64_w])
                  try rfl
                refine hK.out _ _ ⟨b0_, b6_, s2_, s7_, m0_, m13_, m15_, (by rw [ha.out]; exact putSel_upk 6 hb_ rfl rfl rfl), Q_HW, Q_H0, fun h0_ _ => absurd ((hoff 13 (by kernel_rfl)).symm.trans h0_) (by decide), fun _ h1_ _ => absurd ((hoff 13 (by kernel_rfl)).symm.trans h1_) (by decide), Q_H2, fun h0_ => absurd ((hoff 14 (by kernel_rfl)).symm.trans h0_) (by decide), Q_X0_, fun h0_ => absurd ((hoff 13 (by kernel_rfl)).symm.trans h0_) (by decide), fun h0_ => absurd ((hoff 15 (by kernel_rfl)).symm.trans h0_) (by decide)⟩
              refine steps_cons ?_ ?_
              · rintro b a w' ⟨b0_, b6_, s2_, s7_, m0_, m13_, m15_, ha, Q_HW, Q_H0, Q_HS, Q_HN, Q_H2, Q_H9, Q_X0_, Q_X13_, Q_X15_⟩ hb_ hon hoff
                refine ⟨_, rfl, fun K hK => ?_⟩
                have e96 : a.tmps[96]? = some (.pointer (some ad7)) := by rw [ha]; exact putSel_on (e := (9, 96, .pointer (some ad7))) 6 rfl rfl (hon 9 (by kernel_rfl)) rfl
                replace ha := Aside0.mk ha
                have HW := Aside0.mk Q_HW
                have q0 := cells_at HW.out HX0.out
                refine value_ (w1 := w') (v := .int .i64 r) (by rfl) rfl ?_ ?_
                · go_simp
                  (try simp only [i64_w])
                  try rfl
                refine hK.out _ _ ⟨b0_, b6_, s2_, s7_, m0_, m13_, m15_, (by rw [ha.out]; exact putSel_upk 7 hb_ rfl rfl rfl), Q_HW, Q_H0, fun h0_ _ => absurd ((hoff 13 (by kernel_rfl)).symm.trans h0_) (by decide), fun _ h1_ _ => absurd ((hoff 13 (by kernel_rfl)).symm.trans h1_) (by decide), Q_H2, fun h0_ => absurd ((hoff 14 (by kernel_rfl)).symm.trans h0_) (by decide), Q_X0_, fun h0_ => absurd ((hoff 13 (by kernel_rfl)).symm.trans h0_) (by decide), fun h0_ => absurd ((hoff 15 (by kernel_rfl)).symm.trans h0_) (by decide)⟩
              refine steps_cons ?_ ?_
              · rintro b a w' ⟨b0_, b6_, s2_, s7_, m0_, m13_, m15_, ha, Q_HW, Q_H0, Q_HS, Q_HN, Q_H2, Q_H9, Q_X0_, Q_X13_, Q_X15_⟩ hb_ hon hoff
                refine ⟨_, rfl, fun K hK => ?_⟩
                have e5 : a.tmps[5]? = some (.pointer (some ⟨w.heap.size, 0, none⟩)) := by rw [ha]; exact (putSel_off rfl).trans rfl
                replace ha := Aside0.mk ha
                have HW := Aside0.mk Q_HW
                have q0 := cells_at HW.out (blk_cell HP.out 0)
                have q1 := cells_at HW.out (blk_cell HP.out 1)
                refine value_ (w1 := w') (v := .agg #[.int .i64 3, .int .i64 0]) (by rfl) rfl ?_ ?_
                · go_simp
                  (try simp only [i64_w])
                  try rfl
                refine hK.out _ _ ⟨b0_, b6_, s2_, s7_, m0_, m13_, m15_, (by rw [ha.out]; exact putSel_upk 8 hb_ rfl rfl rfl), Q_HW, Q_H0, fun h0_ _ => absurd ((hoff 13 (by kernel_rfl)).symm.trans h0_) (by decide), fun _ h1_ _ => absurd ((hoff 13 (by kernel_rfl)).symm.trans h1_) (by decide), Q_H2, fun h0_ => absurd ((hoff 14 (by kernel_rfl)).symm.trans h0_) (by decide), Q_X0_, fun h0_ => absurd ((hoff 13 (by kernel_rfl)).symm.trans h0_) (by decide), fun h0_ => absurd ((hoff 15 (by kernel_rfl)).symm.trans h0_) (by decide)⟩
              refine steps_cons ?_ ?_
              · rintro b a w' ⟨b0_, b6_, s2_, s7_, m0_, m13_, m15_, ha, Q_HW, Q_H0, Q_HS, Q_HN, Q_H2, Q_H9, Q_X0_, Q_X13_, Q_X15_⟩ hb_ hon hoff
                refine ⟨_, rfl, fun K hK => ?_⟩
                have e93 : a.tmps[93]? = some (.int .i64 10) := by rw [ha]; exact putSel_on (e := (6, 93, .int .i64 10)) 4 rfl rfl (hon 6 (by kernel_rfl)) rfl
                have e97 : a.tmps[97]? = some (.int .i64 r) := by rw [ha]; exact putSel_on (e := (10, 97, .int .i64 r)) 7 rfl rfl (hon 10 (by kernel_rfl)) rfl
                have e98 : a.tmps[98]? = some (.agg #[.int .i64 3, .int .i64 0]) := by rw [ha]; exact putSel_on (e := (11, 98, .agg #[.int .i64 3, .int .i64 0])) 8 rfl rfl (hon 11 (by kernel_rfl)) rfl
                replace ha := Aside0.mk ha
                have HW := Aside0.mk Q_HW
                refine value_ (w1 := w') (v := .agg #[.int .i64 10, .int .i64 r, .int .i64 3, .int .i64 0]) (by rfl) rfl ?_ ?_
                · go_simp
                  (try simp only [i64_w])
                  try rfl
                refine hK.out _ _ ⟨b0_, b6_, s2_, s7_, m0_, m13_, m15_, (by rw [ha.out]; exact putSel_upk 9 hb_ rfl rfl rfl), Q_HW, Q_H0, fun h0_ _ => absurd ((hoff 13 (by kernel_rfl)).symm.trans h0_) (by decide), fun _ h1_ _ => absurd ((hoff 13 (by kernel_rfl)).symm.trans h1_) (by decide), Q_H2, fun h0_ => absurd ((hoff 14 (by kernel_rfl)).symm.trans h0_) (by decide), Q_X0_, fun h0_ => absurd ((hoff 13 (by kernel_rfl)).symm.trans h0_) (by decide), fun h0_ => absurd ((hoff 15 (by kernel_rfl)).symm.trans h0_) (by decide)⟩
              refine steps_cons ?_ ?_
              · rintro b a w' ⟨b0_, b6_, s2_, s7_, m0_, m13_, m15_, ha, Q_HW, Q_H0, Q_HS, Q_HN, Q_H2, Q_H9, Q_X0_, Q_X13_, Q_X15_⟩ hb_ hon hoff
                refine ⟨_, rfl, fun K hK => ?_⟩
                have e99 : a.tmps[99]? = some (.agg #[.int .i64 10, .int .i64 r, .int .i64 3, .int .i64 0]) := by rw [ha]; exact putSel_on (e := (12, 99, .agg #[.int .i64 10, .int .i64 r, .int .i64 3, .int .i64 0])) 9 rfl rfl (hon 12 (by kernel_rfl)) rfl
                replace ha := Aside0.mk ha
                have HW := Aside0.mk Q_HW
                refine value_ (w1 := w'.alloc (.cells #[.int .i64 10, .int .i64 r, .int .i64 3, .int .i64 0] 25)) (v := .slice (some ⟨w'.heap.size, 0, none⟩) 1 1) (by rfl) rfl (by go_simp) ?_
                refine hK.out _ _ ⟨b0_, w'.heap.size, s2_, s7_, m0_, (.slice (some ⟨w'.heap.size, 0, none⟩) 1 1), m15_, (by rw [ha.out]; exact putSel_upk 10 hb_ rfl rfl rfl), below_alloc HW.out _, fun h0_ h1_ => Kd.R_alloc (Q_H0 h0_ h1_) _, fun _ _ => blk_new w' _, fun _ _ _ => (Nat.ne_of_lt (Kd.R_lt (Q_H0 (by assumption) (by assumption)) _ rfl)), fun h0_ h1_ => Kd.R_alloc (Q_H2 h0_ h1_) _, fun h0_ => absurd ((hoff 14 (by kernel_rfl)).symm.trans h0_) (by decide), Q_X0_, fun _ => rfl, fun h0_ => absurd ((hoff 15 (by kernel_rfl)).symm.trans h0_) (by decide)⟩
              refine steps_cons ?_ ?_
              · rintro b a w' ⟨b0_, b6_, s2_, s7_, m0_, m13_, m15_, ha, Q_HW, Q_H0, Q_HS, Q_HN, Q_H2, Q_H9, Q_X0_, Q_X13_, Q_X15_⟩ hb_ hon hoff
                refine ⟨_, rfl, fun K hK => ?_⟩
                have e89 : a.tmps[89]? = some (s2_) := by rw [ha]; exact putSel_on (e := (2, 89, s2_)) 1 rfl rfl (hon 2 (by kernel_rfl)) rfl
                have e100 : a.tmps[100]? = some (m13_) := by rw [ha]; exact putSel_on (e := (13, 100, m13_)) 10 rfl rfl (hon 13 (by kernel_rfl)) rfl
                rw [Q_X13_ (hon 13 (by kernel_rfl))] at e100
                replace ha := Aside0.mk ha
                have HW := Aside0.mk Q_HW
                have HS := Aside0.mk (Q_HS (hon 13 (by kernel_rfl)) hb_)
                have H2 := Aside0.mk (Q_H2 (hon 2 (by kernel_rfl)) hb_)
                refine cat_step kCr flatKM wc w' wc.heap.size (by rfl) (.tmp 89) (.tmp 100) 27 25 (.agg #[.int .i64 0, .int .i64 0, .int .i64 0, .int .i64 0]) 32 rfl Try.underlying27 infoCr rfl (by decide) (by omega) (s2_) (cs) ([(10, r, 3, 0)]) (some ⟨b6_, 0, none⟩) (1) (1) (eval_of e89) (eval_of e100) (H2.out) (C_flat_block (xs := [(10, r, 3, 0)]) HS.out (by simp)) HW.out HW.out.size (by omega) ?_
                intro v1 w1 ho hb hg
                refine hK.out _ _ ⟨b0_, b6_, s2_, v1, m0_, m13_, m15_, (by rw [ha.out]; exact putSel_upk 11 hb_ rfl rfl rfl), hb, fun _ h1_ => absurd ((hon 2 (by kernel_rfl)).symm.trans h1_) (by decide), fun _ h1_ => absurd ((up_self b 14).symm.trans h1_) (by decide), fun _ _ h2_ => absurd ((hon 2 (by kernel_rfl)).symm.trans h2_) (by decide), fun _ h1_ => absurd ((up_self b 14).symm.trans h1_) (by decide), fun _ => ho, Q_X0_, Q_X13_, fun h0_ => absurd ((hoff 15 (by kernel_rfl)).symm.trans h0_) (by decide)⟩
              refine steps_cons ?_ ?_
              · rintro b a w' ⟨b0_, b6_, s2_, s7_, m0_, m13_, m15_, ha, Q_HW, Q_H0, Q_HS, Q_HN, Q_H2, Q_H9, Q_X0_, Q_X13_, Q_X15_⟩ hb_ hon hoff
                refine ⟨_, rfl, fun K hK => ?_⟩
                have e101 : a.tmps[101]? = some (s7_) := by rw [ha]; exact putSel_on (e := (14, 101, s7_)) 11 rfl rfl (hon 14 (by kernel_rfl)) rfl
                replace ha := Aside0.mk ha
                have HW := Aside0.mk Q_HW
                have H9 := Aside0.mk (Q_H9 (hon 14 (by kernel_rfl)))
                refine value_ (w1 := w') (v := s7_) (by rfl) rfl ?_ ?_
                · go_simp
                  (try simp only [i64_w])
                  try rfl
                refine hK.out _ _ ⟨b0_, b6_, s2_, s7_, m0_, m13_, (s7_), (by rw [ha.out]; exact putSel_upk 12 hb_ rfl rfl rfl), Q_HW, fun _ h1_ => absurd ((hon 2 (by kernel_rfl)).symm.trans h1_) (by decide), fun _ h1_ => absurd ((hon 14 (by kernel_rfl)).symm.trans h1_) (by decide), fun _ _ h2_ => absurd ((hon 2 (by kernel_rfl)).symm.trans h2_) (by decide), fun _ h1_ => absurd ((hon 14 (by kernel_rfl)).symm.trans h1_) (by decide), Q_H9, Q_X0_, Q_X13_, fun _ => rfl⟩
              exact steps_nil
            · rintro b a w' hall ⟨b0_, b6_, s2_, s7_, m0_, m13_, m15_, ha, Q_HW, Q_H0, Q_HS, Q_HN, Q_H2, Q_H9, Q_X0_, Q_X13_, Q_X15_⟩
              clear HW
              have hb0_ := hall 0 (by kernel_rfl)
              have hb2_ := hall 2 (by kernel_rfl)
              have hb4_ := hall 4 (by kernel_rfl)
              have hb5_ := hall 5 (by kernel_rfl)
              have hb6_ := hall 6 (by kernel_rfl)
              have hb8_ := hall 8 (by kernel_rfl)
              have hb9_ := hall 9 (by kernel_rfl)
              have hb10_ := hall 10 (by kernel_rfl)
              have hb11_ := hall 11 (by kernel_rfl)
              have hb12_ := hall 12 (by kernel_rfl)
              have hb13_ := hall 13 (by kernel_rfl)
              have hb14_ := hall 14 (by kernel_rfl)
              have hb15_ := hall 15 (by kernel_rfl)
              subst ha
              obtain rfl := Q_X0_ hb0_
              obtain rfl := Q_X13_ hb13_
              obtain rfl := Q_X15_ hb15_
              simp only [putSel, hb0_, hb2_, hb4_, hb5_, hb6_, hb8_, hb9_, hb10_, hb11_, hb12_, hb13_, hb14_, hb15_, if_true, Act.put, List.setIfInBounds_toArray, List.set_cons_zero, List.set_cons_succ]
              have HW := Aside0.mk Q_HW
              clear Q_HW
              clear Q_H0
              clear Q_HS
              clear Q_HN
              clear Q_H2
              have H9 := Aside0.mk (Q_H9 hb14_)
              clear Q_H9
              clear hall hb0_ hb2_ hb4_ hb5_ hb6_ hb8_ hb9_ hb10_ hb11_ hb12_ hb13_ hb14_ hb15_
              go_wp2
              go_meet
              case rel => exact ⟨H9, HW⟩
          case rest =>
            obtain ⟨H11, HW2⟩ := hcut
            replace HC6 := Aside0.mk (cells_at HW2.out HC6.out)
            replace HC7 := Aside0.mk (Kd.C_below HC7.out HW2.out)
            replace HC10 := Aside0.mk (Kd.C_below HC10.out HW2.out)
            replace HP := Aside0.mk (blk_below HP.out HW2.out)
            replace HB1 := Aside0.mk (below_step HB1.out HW2.out)
            clear HX0 HX1 HW HW2
            have hl11 : (cs ++ [(10, r, 3, 0)]).length ≤ 10 := by simp; omega
            have HOKb : Aside0 (∀ x ∈ cs ++ [(10, r, 3, 0)], CrOk x) := ⟨fun x hx => by
              rcases List.mem_append.1 hx with hx | hx
              · exact HOK.out x hx
              · simp only [List.mem_singleton] at hx
                subst hx
                exact crOk (by omega)⟩
            have HK1 := Lib.hid HN2.out.1
            have HK2 := Lib.hid HN2.out.2
            clear HN2
            generalize cs ++ [(10, r, 3, 0)] = bk at *
            obtain ⟨A11, c11, rfl, hc11, hC11⟩ := Kd.R_reads H11.out
            have HC11 := Aside0.mk hC11
            have HW := Aside0.mk (Below.refl wc.heap.size wc)
            clear H11 hc11 hC11
            go_upto_region 16 with fail
            refine start_ (n := 35) (S := fun w' => True) (ds := []) #[false, false, false, false, false, false, false, false, false, false, false, false, false, false, false, false, false, false, false, false, false, false, false, false, false, false, false, false, false, false, false, false, false, false, false] (by kernel_rfl) rfl rfl trivial (fun hHeld => ?_)
            refine with_tabW ltReg.tab16 ltReg.bits16 (fun HT_ HW_ => ?_)
            refine pure_ (i := 0) (N := some 102) (v := ?_) (a' := ?_) #[true, false, false, false, false, false, false, false, false, false, false, false, false, false, false, false, false, false, false, false, false, false, false, false, false, false, false, false, false, false, false, false, false, false, false] rfl rfl (any_of HT_.out (by kernel_rfl)) (fun _ _ _ h => h) (Or.inl ⟨by rfl, ?_⟩) ?_ ?_
            rotate_left
            · intro w'
              go_simp
              with_reducible rfl
            rotate_left
            · simp only [Act.put, List.setIfInBounds_toArray, List.set_cons_zero, List.set_cons_succ, i64_w, i32_w]
              rfl
            refine pure_ (i := 2) (N := some 104) (v := ?_) (a' := ?_) #[true, false, true, false, false, false, false, false, false, false, false, false, false, false, false, false, false, false, false, false, false, false, false, false, false, false, false, false, false, false, false, false, false, false, false] rfl rfl (any_of HT_.out (by kernel_rfl)) (fun _ _ _ h => h) (Or.inl ⟨by rfl, ?_⟩) ?_ ?_
            rotate_left
            · intro w'
              go_simp
              with_reducible rfl
            rotate_left
            · simp only [Act.put, List.setIfInBounds_toArray, List.set_cons_zero, List.set_cons_succ, i64_w, i32_w]
              rfl
            refine inv_at [1, 3, 4, 5, 6, 7, 8, 9, 10, 11, 12, 13, 14, 15, 16, 17, 18, 19, 20, 21, 22, 23, 24, 25, 26, 27, 28, 29, 30, 31, 32, 33, 34] (fun a0_ b a w' => a = putSel a0_ b [(1, 103, .agg #[.int .i64 3, .int .i64 0]), (3, 105, .pointer (some ad6)), (4, 106, .int .i64 r), (5, 107, .bool false), (6, 108, .bool true), (7, 109, .bool true), (8, 110, .slice A10 tw.length c10), (9, 111, .bool false), (10, 112, .bool true), (11, 113, .bool true), (12, 114, .bool true), (13, 115, .slice A11 bk.length c11), (14, 116, .agg #[.int .i64 3, .int .i64 0]), (15, 117, .slice (some ad6) (cs.length + 1) c6), (16, 118, .pointer (some ad6)), (17, 119, .int .i64 r), (18, 120, .bool false), (19, 121, .bool true), (20, 122, .bool true), (21, 123, .bool true), (22, 124, .slice A11 bk.length c11), (23, 125, .bool false), (24, 126, .bool true), (25, 127, .bool true), (26, 128, .bool true), (27, 129, .slice (some ad7) cs.length c7), (28, 130, .agg #[.int .i64 0, .int .i64 0]), (29, 131, .bool true), (30, 132, .bool true), (31, 133, .bool true), (32, 134, .bool true), (33, 135, .bool true), (34, 4, .bool true)] ∧ (Below wc.heap.size wc w')) HT_.out HW_.out (by kernel_rfl) (by kernel_rfl) ?_ ?_ ?_
            · exact ⟨by simp only [putSel, Bool.false_eq_true, if_false], below_drew HW.out⟩
            · skip
              clear HW
              refine steps_cons ?_ ?_
              · rintro b a w' ⟨ha, Q_HW⟩ hb_ hon hoff
                refine ⟨_, rfl, fun K hK => ?_⟩
                have e5 : a.tmps[5]? = some (.pointer (some ⟨w.heap.size, 0, none⟩)) := by rw [ha]; exact (putSel_off rfl).trans rfl
                replace ha := Aside0.mk ha
                have HW := Aside0.mk Q_HW
                have q0 := cells_at HW.out (blk_cell HP.out 0)
                have q1 := cells_at HW.out (blk_cell HP.out 1)
                refine value_ (w1 := w') (v := .agg #[.int .i64 3, .int .i64 0]) (by rfl) rfl ?_ ?_
                · go_simp
                  (try simp only [i64_w])
                  try rfl
                refine hK.out _ _ ⟨(by rw [ha.out]; exact putSel_upk 0 hb_ rfl rfl rfl), Q_HW⟩
              refine steps_cons ?_ ?_
              · rintro b a w' ⟨ha, Q_HW⟩ hb_ hon hoff
                refine ⟨_, rfl, fun K hK => ?_⟩
                have e104 : a.tmps[104]? = some (.slice (some ad6) (cs.length + 1) c6) := by rw [ha]; exact (putSel_off rfl).trans rfl
                replace ha := Aside0.mk ha
                have HW := Aside0.mk Q_HW
                have hb1 : (0 : Int) < (cs.length : Int) + 1 := by omega
                refine value_ (w1 := w') (v := .pointer (some ad6)) (by rfl) rfl ?_ ?_
                · go_simp
                  (try simp only [i64_w])
                  try rfl
                refine hK.out _ _ ⟨(by rw [ha.out]; exact putSel_upk 1 hb_ rfl rfl rfl), Q_HW⟩
              refine steps_cons ?_ ?_
              · rintro b a w' ⟨ha, Q_HW⟩ hb_ hon hoff
                refine ⟨_, rfl, fun K hK => ?_⟩
                have e105 : a.tmps[105]? = some (.pointer (some ad6)) := by rw [ha]; exact putSel_on (e := (3, 105, .pointer (some ad6))) 1 rfl rfl (hon 3 (by kernel_rfl)) rfl
                replace ha := Aside0.mk ha
                have HW := Aside0.mk Q_HW
                have q0 := cells_at HW.out HC6.out
                refine value_ (w1 := w') (v := .int .i64 r) (by rfl) rfl ?_ ?_
                · go_simp
                  (try simp only [i64_w])
                  try rfl
                refine hK.out _ _ ⟨(by rw [ha.out]; exact putSel_upk 2 hb_ rfl rfl rfl), Q_HW⟩
              refine steps_cons ?_ ?_
              · rintro b a w' ⟨ha, Q_HW⟩ hb_ hon hoff
                refine ⟨_, rfl, fun K hK => ?_⟩
                have e102 : a.tmps[102]? = some (.slice A10 tw.length c10) := by rw [ha]; exact (putSel_off rfl).trans rfl
                have e103 : a.tmps[103]? = some (.agg #[.int .i64 3, .int .i64 0]) := by rw [ha]; exact putSel_on (e := (1, 103, .agg #[.int .i64 3, .int .i64 0])) 0 rfl rfl (hon 1 (by kernel_rfl)) rfl
                have e106 : a.tmps[106]? = some (.int .i64 r) := by rw [ha]; exact putSel_on (e := (4, 106, .int .i64 r)) 2 rfl rfl (hon 4 (by kernel_rfl)) rfl
                replace ha := Aside0.mk ha
                have HW := Aside0.mk Q_HW
                refine goes_ Try.func7 (by kernel_rfl) rfl #[.slice A10 tw.length c10, .agg #[.int .i64 3, .int .i64 0], .int .i64 r] (by rfl) rfl rfl (by simp only [List.map_toArray, List.map_cons, List.map_nil, Act.eval, Array.getD_eq_getD_getElem?, Option.getD_some, e102, e103, e106]) ?_
                refine (tree_calls A10 c10 tw (3, 0) r w' (Kd.C_below HC10.out HW.out) HOKt.out HRO.out (by omega)).mono ?_
                rintro e w2 ⟨he, hB⟩
                rw [HT1.out] at he
                subst he
                refine ⟨_, rfl, ?_⟩
                refine hK.out _ _ ⟨(by rw [ha.out]; exact putSel_upk 3 hb_ rfl rfl rfl), below_step HW.out hB⟩
              refine steps_cons ?_ ?_
              · rintro b a w' ⟨ha, Q_HW⟩ hb_ hon hoff
                refine ⟨_, rfl, fun K hK => ?_⟩
                have e107 : a.tmps[107]? = some (.bool false) := by rw [ha]; exact putSel_on (e := (5, 107, .bool false)) 3 rfl rfl (hon 5 (by kernel_rfl)) rfl
                replace ha := Aside0.mk ha
                have HW := Aside0.mk Q_HW
                refine value_ (w1 := w') (v := .bool true) (by rfl) rfl ?_ ?_
                · go_simp
                  (try simp only [i64_w])
                  try rfl
                refine hK.out _ _ ⟨(by rw [ha.out]; exact putSel_upk 4 hb_ rfl rfl rfl), Q_HW⟩
              refine steps_cons ?_ ?_
              · rintro b a w' ⟨ha, Q_HW⟩ hb_ hon hoff
                refine ⟨_, rfl, fun K hK => ?_⟩
                have e108 : a.tmps[108]? = some (.bool true) := by rw [ha]; exact putSel_on (e := (6, 108, .bool true)) 4 rfl rfl (hon 6 (by kernel_rfl)) rfl
                replace ha := Aside0.mk ha
                have HW := Aside0.mk Q_HW
                refine value_ (w1 := w') (v := .bool true) (by rfl) rfl ?_ ?_
                · go_simp
                  (try simp only [i64_w])
                  try rfl
                refine hK.out _ _ ⟨(by rw [ha.out]; exact putSel_upk 5 hb_ rfl rfl rfl), Q_HW⟩
              refine steps_cons ?_ ?_
              · rintro b a w' ⟨ha, Q_HW⟩ hb_ hon hoff
                refine ⟨_, rfl, fun K hK => ?_⟩
                have e10 : a.tmps[10]? = some (.slice A10 tw.length c10) := by rw [ha]; exact (putSel_off rfl).trans rfl
                have e109 : a.tmps[109]? = some (.bool true) := by rw [ha]; exact putSel_on (e := (7, 109, .bool true)) 5 rfl rfl (hon 7 (by kernel_rfl)) rfl
                replace ha := Aside0.mk ha
                have HW := Aside0.mk Q_HW
                refine value_ (w1 := w') (v := .slice A10 tw.length c10) (wanted_on rfl rfl rfl (e109.trans (by first | rfl | (simp [*]; done)))) rfl ?_ ?_
                · go_simp
                  (try simp only [i64_w])
                  try rfl
                refine hK.out _ _ ⟨(by rw [ha.out]; exact putSel_upk 6 hb_ rfl rfl rfl), Q_HW⟩
              refine steps_cons ?_ ?_
              · rintro b a w' ⟨ha, Q_HW⟩ hb_ hon hoff
                refine ⟨_, rfl, fun K hK => ?_⟩
                have e110 : a.tmps[110]? = some (.slice A10 tw.length c10) := by rw [ha]; exact putSel_on (e := (8, 110, .slice A10 tw.length c10)) 6 rfl rfl (hon 8 (by kernel_rfl)) rfl
                have e109 : a.tmps[109]? = some (.bool true) := by rw [ha]; exact putSel_on (e := (7, 109, .bool true)) 5 rfl rfl (hon 7 (by kernel_rfl)) rfl
                replace ha := Aside0.mk ha
                have HW := Aside0.mk Q_HW
                refine goes_ Try.func9 (by kernel_rfl) rfl #[.slice A10 tw.length c10] (wanted_on rfl rfl rfl e109) rfl rfl (by simp only [List.map_toArray, List.map_cons, List.map_nil, Act.eval, Array.getD_eq_getD_getElem?, Option.getD_some, e110]) ?_
                refine (once_calls A10 c10 tw w' (Kd.C_below HC10.out HW.out) HOKt.out (by omega)).mono ?_
                rintro e w2 ⟨he, hB⟩
                rw [HT2.out] at he
                subst he
                refine ⟨_, rfl, ?_⟩
                refine hK.out _ _ ⟨(by rw [ha.out]; exact putSel_upk 7 hb_ rfl rfl rfl), below_step HW.out hB⟩
              refine steps_cons ?_ ?_
              · rintro b a w' ⟨ha, Q_HW⟩ hb_ hon hoff
                refine ⟨_, rfl, fun K hK => ?_⟩
                have e111 : a.tmps[111]? = some (.bool false) := by rw [ha]; exact putSel_on (e := (9, 111, .bool false)) 7 rfl rfl (hon 9 (by kernel_rfl)) rfl
                have e109 : a.tmps[109]? = some (.bool true) := by rw [ha]; exact putSel_on (e := (7, 109, .bool true)) 5 rfl rfl (hon 7 (by kernel_rfl)) rfl
                replace ha := Aside0.mk ha
                have HW := Aside0.mk Q_HW
                refine value_ (w1 := w') (v := .bool true) (wanted_on rfl rfl rfl (e109.trans (by first | rfl | (simp [*]; done)))) rfl ?_ ?_
                · go_simp
                  (try simp only [i64_w])
                  try rfl
                refine hK.out _ _ ⟨(by rw [ha.out]; exact putSel_upk 8 hb_ rfl rfl rfl), Q_HW⟩
              refine steps_cons ?_ ?_
              · rintro b a w' ⟨ha, Q_HW⟩ hb_ hon hoff
                refine ⟨_, rfl, fun K hK => ?_⟩
                have e109 : a.tmps[109]? = some (.bool true) := by rw [ha]; exact putSel_on (e := (7, 109, .bool true)) 5 rfl rfl (hon 7 (by kernel_rfl)) rfl
                have e112 : a.tmps[112]? = some (.bool true) := by rw [ha]; exact putSel_on (e := (10, 112, .bool true)) 8 rfl rfl (hon 10 (by kernel_rfl)) rfl
                replace ha := Aside0.mk ha
                have HW := Aside0.mk Q_HW
                refine value_ (w1 := w') (v := .bool true) (by rfl) rfl ?_ ?_
                · go_simp
                  (try simp only [i64_w])
                  try rfl
                refine hK.out _ _ ⟨(by rw [ha.out]; exact putSel_upk 9 hb_ rfl rfl rfl), Q_HW⟩
              refine steps_cons ?_ ?_
              · rintro b a w' ⟨ha, Q_HW⟩ hb_ hon hoff
                refine ⟨_, rfl, fun K hK => ?_⟩
                have e113 : a.tmps[113]? = some (.bool true) := by rw [ha]; exact putSel_on (e := (11, 113, .bool true)) 9 rfl rfl (hon 11 (by kernel_rfl)) rfl
                replace ha := Aside0.mk ha
                have HW := Aside0.mk Q_HW
                refine value_ (w1 := w') (v := .bool true) (by rfl) rfl ?_ ?_
                · go_simp
                  (try simp only [i64_w])
                  try rfl
                refine hK.out _ _ ⟨(by rw [ha.out]; exact putSel_upk 10 hb_ rfl rfl rfl), Q_HW⟩
              refine steps_cons ?_ ?_
              · rintro b a w' ⟨ha, Q_HW⟩ hb_ hon hoff
                refine ⟨_, rfl, fun K hK => ?_⟩
                have e11 : a.tmps[11]? = some (.slice A11 bk.length c11) := by rw [ha]; exact (putSel_off rfl).trans rfl
                have e114 : a.tmps[114]? = some (.bool true) := by rw [ha]; exact putSel_on (e := (12, 114, .bool true)) 10 rfl rfl (hon 12 (by kernel_rfl)) rfl
                replace ha := Aside0.mk ha
                have HW := Aside0.mk Q_HW
                refine value_ (w1 := w') (v := .slice A11 bk.length c11) (wanted_on rfl rfl rfl (e114.trans (by first | rfl | (simp [*]; done)))) rfl ?_ ?_
                · go_simp
                  (try simp only [i64_w])
                  try rfl
                refine hK.out _ _ ⟨(by rw [ha.out]; exact putSel_upk 11 hb_ rfl rfl rfl), Q_HW⟩
              refine steps_cons ?_ ?_
              · rintro b a w' ⟨ha, Q_HW⟩ hb_ hon hoff
                refine ⟨_, rfl, fun K hK => ?_⟩
                have e5 : a.tmps[5]? = some (.pointer (some ⟨w.heap.size, 0, none⟩)) := by rw [ha]; exact (putSel_off rfl).trans rfl
                have e114 : a.tmps[114]? = some (.bool true) := by rw [ha]; exact putSel_on (e := (12, 114, .bool true)) 10 rfl rfl (hon 12 (by kernel_rfl)) rfl
                replace ha := Aside0.mk ha
                have HW := Aside0.mk Q_HW
                have q0 := cells_at HW.out (blk_cell HP.out 0)
                have q1 := cells_at HW.out (blk_cell HP.out 1)
                refine value_ (w1 := w') (v := .agg #[.int .i64 3, .int .i64 0]) (wanted_on rfl rfl rfl (e114.trans (by first | rfl | (simp [*]; done)))) rfl ?_ ?_
                · go_simp
                  (try simp only [i64_w])
                  try rfl
                refine hK.out _ _ ⟨(by rw [ha.out]; exact putSel_upk 12 hb_ rfl rfl rfl), Q_HW⟩
              refine steps_cons ?_ ?_
              · rintro b a w' ⟨ha, Q_HW⟩ hb_ hon hoff
                refine ⟨_, rfl, fun K hK => ?_⟩
                have e6 : a.tmps[6]? = some (.slice (some ad6) (cs.length + 1) c6) := by rw [ha]; exact (putSel_off rfl).trans rfl
                have e114 : a.tmps[114]? = some (.bool true) := by rw [ha]; exact putSel_on (e := (12, 114, .bool true)) 10 rfl rfl (hon 12 (by kernel_rfl)) rfl
                replace ha := Aside0.mk ha
                have HW := Aside0.mk Q_HW
                refine value_ (w1 := w') (v := .slice (some ad6) (cs.length + 1) c6) (wanted_on rfl rfl rfl (e114.trans (by first | rfl | (simp [*]; done)))) rfl ?_ ?_
                · go_simp
                  (try simp only [i64_w])
                  try rfl
                refine hK.out _ _ ⟨(by rw [ha.out]; exact putSel_upk 13 hb_ rfl rfl rfl), Q_HW⟩
              refine steps_cons ?_ ?_
              · rintro b a w' ⟨ha, Q_HW⟩ hb_ hon hoff
                refine ⟨_, rfl, fun K hK => ?_⟩
                have e117 : a.tmps[117]? = some (.slice (some ad6) (cs.length + 1) c6) := by rw [ha]; exact putSel_on (e := (15, 117, .slice (some ad6) (cs.length + 1) c6)) 13 rfl rfl (hon 15 (by kernel_rfl)) rfl
                have e114 : a.tmps[114]? = some (.bool true) := by rw [ha]; exact putSel_on (e := (12, 114, .bool true)) 10 rfl rfl (hon 12 (by kernel_rfl)) rfl
                replace ha := Aside0.mk ha
                have HW := Aside0.mk Q_HW
                have hb1 : (0 : Int) < (cs.length : Int) + 1 := by omega
                refine value_ (w1 := w') (v := .pointer (some ad6)) (wanted_on rfl rfl rfl (e114.trans (by first | rfl | (simp [*]; done)))) rfl ?_ ?_
                · go_simp
                  (try simp only [i64_w])
                  try rfl
                refine hK.out _ _ ⟨(by rw [ha.out]; exact putSel_upk 14 hb_ rfl rfl rfl), Q_HW⟩
              refine steps_cons ?_ ?_
              · rintro b a w' ⟨ha, Q_HW⟩ hb_ hon hoff
                refine ⟨_, rfl, fun K hK => ?_⟩
                have e118 : a.tmps[118]? = some (.pointer (some ad6)) := by rw [ha]; exact putSel_on (e := (16, 118, .pointer (some ad6))) 14 rfl rfl (hon 16 (by kernel_rfl)) rfl
                have e114 : a.tmps[114]? = some (.bool true) := by rw [ha]; exact putSel_on (e := (12, 114, .bool true)) 10 rfl rfl (hon 12 (by kernel_rfl)) rfl
                replace ha := Aside0.mk ha
                have HW := Aside0.mk Q_HW
                have q0 := cells_at HW.out HC6.out
                refine value_ (w1 := w') (v := .int .i64 r) (wanted_on rfl rfl rfl (e114.trans (by first | rfl | (simp [*]; done)))) rfl ?_ ?_
                · go_simp
                  (try simp only [i64_w])
                  try rfl
                refine hK.out _ _ ⟨(by rw [ha.out]; exact putSel_upk 15 hb_ rfl rfl rfl), Q_HW⟩
              refine steps_cons ?_ ?_
              · rintro b a w' ⟨ha, Q_HW⟩ hb_ hon hoff
                refine ⟨_, rfl, fun K hK => ?_⟩
                have e115 : a.tmps[115]? = some (.slice A11 bk.length c11) := by rw [ha]; exact putSel_on (e := (13, 115, .slice A11 bk.length c11)) 11 rfl rfl (hon 13 (by kernel_rfl)) rfl
                have e116 : a.tmps[116]? = some (.agg #[.int .i64 3, .int .i64 0]) := by rw [ha]; exact putSel_on (e := (14, 116, .agg #[.int .i64 3, .int .i64 0])) 12 rfl rfl (hon 14 (by kernel_rfl)) rfl
                have e119 : a.tmps[119]? = some (.int .i64 r) := by rw [ha]; exact putSel_on (e := (17, 119, .int .i64 r)) 15 rfl rfl (hon 17 (by kernel_rfl)) rfl
                have e114 : a.tmps[114]? = some (.bool true) := by rw [ha]; exact putSel_on (e := (12, 114, .bool true)) 10 rfl rfl (hon 12 (by kernel_rfl)) rfl
                replace ha := Aside0.mk ha
                have HW := Aside0.mk Q_HW
                refine goes_ Try.func7 (by kernel_rfl) rfl #[.slice A11 bk.length c11, .agg #[.int .i64 3, .int .i64 0], .int .i64 r] (wanted_on rfl rfl rfl e114) rfl rfl (by simp only [List.map_toArray, List.map_cons, List.map_nil, Act.eval, Array.getD_eq_getD_getElem?, Option.getD_some, e115, e116, e119]) ?_
                refine (tree_calls A11 c11 bk (3, 0) r w' (Kd.C_below HC11.out HW.out) HOKb.out HRO.out (by omega)).mono ?_
                rintro e w2 ⟨he, hB⟩
                rw [HK1.out] at he
                subst he
                refine ⟨_, rfl, ?_⟩
                refine hK.out _ _ ⟨(by rw [ha.out]; exact putSel_upk 16 hb_ rfl rfl rfl), below_step HW.out hB⟩
              refine steps_cons ?_ ?_
              · rintro b a w' ⟨ha, Q_HW⟩ hb_ hon hoff
                refine ⟨_, rfl, fun K hK => ?_⟩
                have e120 : a.tmps[120]? = some (.bool false) := by rw [ha]; exact putSel_on (e := (18, 120, .bool false)) 16 rfl rfl (hon 18 (by kernel_rfl)) rfl
                have e114 : a.tmps[114]? = some (.bool true) := by rw [ha]; exact putSel_on (e := (12, 114, .bool true)) 10 rfl rfl (hon 12 (by kernel_rfl)) rfl
                replace ha := Aside0.mk ha
                have HW := Aside0.mk Q_HW
                refine value_ (w1 := w') (v := .bool true) (wanted_on rfl rfl rfl (e114.trans (by first | rfl | (simp [*]; done)))) rfl ?_ ?_
                · go_simp
                  (try simp only [i64_w])
                  try rfl
                refine hK.out _ _ ⟨(by rw [ha.out]; exact putSel_upk 17 hb_ rfl rfl rfl), Q_HW⟩
              refine steps_cons ?_ ?_
              · rintro b a w' ⟨ha, Q_HW⟩ hb_ hon hoff
                refine ⟨_, rfl, fun K hK => ?_⟩
                have e114 : a.tmps[114]? = some (.bool true) := by rw [ha]; exact putSel_on (e := (12, 114, .bool true)) 10 rfl rfl (hon 12 (by kernel_rfl)) rfl
                have e121 : a.tmps[121]? = some (.bool true) := by rw [ha]; exact putSel_on (e := (19, 121, .bool true)) 17 rfl rfl (hon 19 (by kernel_rfl)) rfl
                replace ha := Aside0.mk ha
                have HW := Aside0.mk Q_HW
                refine value_ (w1 := w') (v := .bool true) (by rfl) rfl ?_ ?_
                · go_simp
                  (try simp only [i64_w])
                  try rfl
                refine hK.out _ _ ⟨(by rw [ha.out]; exact putSel_upk 18 hb_ rfl rfl rfl), Q_HW⟩
              refine steps_cons ?_ ?_
              · rintro b a w' ⟨ha, Q_HW⟩ hb_ hon hoff
                refine ⟨_, rfl, fun K hK => ?_⟩
                have e122 : a.tmps[122]? = some (.bool true) := by rw [ha]; exact putSel_on (e := (20, 122, .bool true)) 18 rfl rfl (hon 20 (by kernel_rfl)) rfl
                replace ha := Aside0.mk ha
                have HW := Aside0.mk Q_HW
                refine value_ (w1 := w') (v := .bool true) (by rfl) rfl ?_ ?_
                · go_simp
                  (try simp only [i64_w])
                  try rfl
                refine hK.out _ _ ⟨(by rw [ha.out]; exact putSel_upk 19 hb_ rfl rfl rfl), Q_HW⟩
              refine steps_cons ?_ ?_
              · rintro b a w' ⟨ha, Q_HW⟩ hb_ hon hoff
                refine ⟨_, rfl, fun K hK => ?_⟩
                have e11 : a.tmps[11]? = some (.slice A11 bk.length c11) := by rw [ha]; exact (putSel_off rfl).trans rfl
                have e123 : a.tmps[123]? = some (.bool true) := by rw [ha]; exact putSel_on (e := (21, 123, .bool true)) 19 rfl rfl (hon 21 (by kernel_rfl)) rfl
                replace ha := Aside0.mk ha
                have HW := Aside0.mk Q_HW
                refine value_ (w1 := w') (v := .slice A11 bk.length c11) (wanted_on rfl rfl rfl (e123.trans (by first | rfl | (simp [*]; done)))) rfl ?_ ?_
                · go_simp
                  (try simp only [i64_w])
                  try rfl
                refine hK.out _ _ ⟨(by rw [ha.out]; exact putSel_upk 20 hb_ rfl rfl rfl), Q_HW⟩
              refine steps_cons ?_ ?_
              · rintro b a w' ⟨ha, Q_HW⟩ hb_ hon hoff
                refine ⟨_, rfl, fun K hK => ?_⟩
                have e124 : a.tmps[124]? = some (.slice A11 bk.length c11) := by rw [ha]; exact putSel_on (e := (22, 124, .slice A11 bk.length c11)) 20 rfl rfl (hon 22 (by kernel_rfl)) rfl
                have e123 : a.tmps[123]? = some (.bool true) := by rw [ha]; exact putSel_on (e := (21, 123, .bool true)) 19 rfl rfl (hon 21 (by kernel_rfl)) rfl
                replace ha := Aside0.mk ha
                have HW := Aside0.mk Q_HW
                refine goes_ Try.func8 (by kernel_rfl) rfl #[.slice A11 bk.length c11] (wanted_on rfl rfl rfl e123) rfl rfl (by simp only [List.map_toArray, List.map_cons, List.map_nil, Act.eval, Array.getD_eq_getD_getElem?, Option.getD_some, e124]) ?_
                refine (oneway_calls A11 c11 bk w' (Kd.C_below HC11.out HW.out) HOKb.out (by omega)).mono ?_
                rintro e w2 ⟨he, hB⟩
                rw [HK2.out] at he
                subst he
                refine ⟨_, rfl, ?_⟩
                refine hK.out _ _ ⟨(by rw [ha.out]; exact putSel_upk 21 hb_ rfl rfl rfl), below_step HW.out hB⟩
              refine steps_cons ?_ ?_
              · rintro b a w' ⟨ha, Q_HW⟩ hb_ hon hoff
                refine ⟨_, rfl, fun K hK => ?_⟩
                have e125 : a.tmps[125]? = some (.bool false) := by rw [ha]; exact putSel_on (e := (23, 125, .bool false)) 21 rfl rfl (hon 23 (by kernel_rfl)) rfl
                have e123 : a.tmps[123]? = some (.bool true) := by rw [ha]; exact putSel_on (e := (21, 123, .bool true)) 19 rfl rfl (hon 21 (by kernel_rfl)) rfl
                replace ha := Aside0.mk ha
                have HW := Aside0.mk Q_HW
                refine value_ (w1 := w') (v := .bool true) (wanted_on rfl rfl rfl (e123.trans (by first | rfl | (simp [*]; done)))) rfl ?_ ?_
                · go_simp
                  (try simp only [i64_w])
                  try rfl
                refine hK.out _ _ ⟨(by rw [ha.out]; exact putSel_upk 22 hb_ rfl rfl rfl), Q_HW⟩
              refine steps_cons ?_ ?_
              · rintro b a w' ⟨ha, Q_HW⟩ hb_ hon hoff
                refine ⟨_, rfl, fun K hK => ?_⟩
                have e123 : a.tmps[123]? = some (.bool true) := by rw [ha]; exact putSel_on (e := (21, 123, .bool true)) 19 rfl rfl (hon 21 (by kernel_rfl)) rfl
                have e126 : a.tmps[126]? = some (.bool true) := by rw [ha]; exact putSel_on (e := (24, 126, .bool true)) 22 rfl rfl (hon 24 (by kernel_rfl)) rfl
                replace ha := Aside0.mk ha
                have HW := Aside0.mk Q_HW
                refine value_ (w1 := w') (v := .bool true) (by rfl) rfl ?_ ?_
                · go_simp
                  (try simp only [i64_w])
                  try rfl
                refine hK.out _ _ ⟨(by rw [ha.out]; exact putSel_upk 23 hb_ rfl rfl rfl), Q_HW⟩
              refine steps_cons ?_ ?_
              · rintro b a w' ⟨ha, Q_HW⟩ hb_ hon hoff
                refine ⟨_, rfl, fun K hK => ?_⟩
                have e127 : a.tmps[127]? = some (.bool true) := by rw [ha]; exact putSel_on (e := (25, 127, .bool true)) 23 rfl rfl (hon 25 (by kernel_rfl)) rfl
                replace ha := Aside0.mk ha
                have HW := Aside0.mk Q_HW
                refine value_ (w1 := w') (v := .bool true) (by rfl) rfl ?_ ?_
                · go_simp
                  (try simp only [i64_w])
                  try rfl
                refine hK.out _ _ ⟨(by rw [ha.out]; exact putSel_upk 24 hb_ rfl rfl rfl), Q_HW⟩
              refine steps_cons ?_ ?_
              · rintro b a w' ⟨ha, Q_HW⟩ hb_ hon hoff
                refine ⟨_, rfl, fun K hK => ?_⟩
                have e7 : a.tmps[7]? = some (.slice (some ad7) cs.length c7) := by rw [ha]; exact (putSel_off rfl).trans rfl
                have e128 : a.tmps[128]? = some (.bool true) := by rw [ha]; exact putSel_on (e := (26, 128, .bool true)) 24 rfl rfl (hon 26 (by kernel_rfl)) rfl
                replace ha := Aside0.mk ha
                have HW := Aside0.mk Q_HW
                refine value_ (w1 := w') (v := .slice (some ad7) cs.length c7) (wanted_on rfl rfl rfl (e128.trans (by first | rfl | (simp [*]; done)))) rfl ?_ ?_
                · go_simp
                  (try simp only [i64_w])
                  try rfl
                refine hK.out _ _ ⟨(by rw [ha.out]; exact putSel_upk 25 hb_ rfl rfl rfl), Q_HW⟩
              refine steps_cons ?_ ?_
              · rintro b a w' ⟨ha, Q_HW⟩ hb_ hon hoff
                refine ⟨_, rfl, fun K hK => ?_⟩
                have e128 : a.tmps[128]? = some (.bool true) := by rw [ha]; exact putSel_on (e := (26, 128, .bool true)) 24 rfl rfl (hon 26 (by kernel_rfl)) rfl
                replace ha := Aside0.mk ha
                have HW := Aside0.mk Q_HW
                refine value_ (w1 := w') (v := .agg #[.int .i64 0, .int .i64 0]) (wanted_on rfl rfl rfl (e128.trans (by first | rfl | (simp [*]; done)))) rfl ?_ ?_
                · go_simp
                  (try simp only [i64_w])
                  try rfl
                refine hK.out _ _ ⟨(by rw [ha.out]; exact putSel_upk 26 hb_ rfl rfl rfl), Q_HW⟩
              refine steps_cons ?_ ?_
              · rintro b a w' ⟨ha, Q_HW⟩ hb_ hon hoff
                refine ⟨_, rfl, fun K hK => ?_⟩
                have e129 : a.tmps[129]? = some (.slice (some ad7) cs.length c7) := by rw [ha]; exact putSel_on (e := (27, 129, .slice (some ad7) cs.length c7)) 25 rfl rfl (hon 27 (by kernel_rfl)) rfl
                have e130 : a.tmps[130]? = some (.agg #[.int .i64 0, .int .i64 0]) := by rw [ha]; exact putSel_on (e := (28, 130, .agg #[.int .i64 0, .int .i64 0])) 26 rfl rfl (hon 28 (by kernel_rfl)) rfl
                have e128 : a.tmps[128]? = some (.bool true) := by rw [ha]; exact putSel_on (e := (26, 128, .bool true)) 24 rfl rfl (hon 26 (by kernel_rfl)) rfl
                replace ha := Aside0.mk ha
                have HW := Aside0.mk Q_HW
                refine goes_ Try.func7 (by kernel_rfl) rfl #[.slice (some ad7) cs.length c7, .agg #[.int .i64 0, .int .i64 0], .int .i64 5] (wanted_on rfl rfl rfl e128) rfl rfl (by simp only [List.map_toArray, List.map_cons, List.map_nil, Act.eval, Array.getD_eq_getD_getElem?, Option.getD_some, e129, e130]) ?_
                refine (tree_calls (some ad7) c7 cs (0, 0) 5 w' (Kd.C_below HC7.out HW.out) HOK.out (inI64 (by omega) (by omega)) (by omega)).mono ?_
                rintro e w2 ⟨he, hB⟩
                rw [HV5.out] at he
                subst he
                refine ⟨_, rfl, ?_⟩
                refine hK.out _ _ ⟨(by rw [ha.out]; exact putSel_upk 27 hb_ rfl rfl rfl), below_step HW.out hB⟩
              refine steps_cons ?_ ?_
              · rintro b a w' ⟨ha, Q_HW⟩ hb_ hon hoff
                refine ⟨_, rfl, fun K hK => ?_⟩
                have e128 : a.tmps[128]? = some (.bool true) := by rw [ha]; exact putSel_on (e := (26, 128, .bool true)) 24 rfl rfl (hon 26 (by kernel_rfl)) rfl
                have e131 : a.tmps[131]? = some (.bool true) := by rw [ha]; exact putSel_on (e := (29, 131, .bool true)) 27 rfl rfl (hon 29 (by kernel_rfl)) rfl
                replace ha := Aside0.mk ha
                have HW := Aside0.mk Q_HW
                refine value_ (w1 := w') (v := .bool true) (by rfl) rfl ?_ ?_
                · go_simp
                  (try simp only [i64_w])
                  try rfl
                refine hK.out _ _ ⟨(by rw [ha.out]; exact putSel_upk 28 hb_ rfl rfl rfl), Q_HW⟩
              refine steps_cons ?_ ?_
              · rintro b a w' ⟨ha, Q_HW⟩ hb_ hon hoff
                refine ⟨_, rfl, fun K hK => ?_⟩
                have e132 : a.tmps[132]? = some (.bool true) := by rw [ha]; exact putSel_on (e := (30, 132, .bool true)) 28 rfl rfl (hon 30 (by kernel_rfl)) rfl
                replace ha := Aside0.mk ha
                have HW := Aside0.mk Q_HW
                refine value_ (w1 := w') (v := .bool true) (by rfl) rfl ?_ ?_
                · go_simp
                  (try simp only [i64_w])
                  try rfl
                refine hK.out _ _ ⟨(by rw [ha.out]; exact putSel_upk 29 hb_ rfl rfl rfl), Q_HW⟩
              refine steps_cons ?_ ?_
              · rintro b a w' ⟨ha, Q_HW⟩ hb_ hon hoff
                refine ⟨_, rfl, fun K hK => ?_⟩
                have e133 : a.tmps[133]? = some (.bool true) := by rw [ha]; exact putSel_on (e := (31, 133, .bool true)) 29 rfl rfl (hon 31 (by kernel_rfl)) rfl
                replace ha := Aside0.mk ha
                have HW := Aside0.mk Q_HW
                refine goes_ Try.func3 (by kernel_rfl) rfl #[] (wanted_on rfl rfl rfl e133) rfl rfl (by simp only [List.map_toArray, List.map_cons, List.map_nil, Act.eval, Array.getD_eq_getD_getElem?, Option.getD_some]) ?_
                refine (runs_calls w').mono ?_
                rintro e w2 ⟨he, hB⟩
                subst he
                refine ⟨_, rfl, ?_⟩
                refine hK.out _ _ ⟨(by rw [ha.out]; exact putSel_upk 30 hb_ rfl rfl rfl), below_step HW.out hB⟩
              refine steps_cons ?_ ?_
              · rintro b a w' ⟨ha, Q_HW⟩ hb_ hon hoff
                refine ⟨_, rfl, fun K hK => ?_⟩
                have e133 : a.tmps[133]? = some (.bool true) := by rw [ha]; exact putSel_on (e := (31, 133, .bool true)) 29 rfl rfl (hon 31 (by kernel_rfl)) rfl
                have e134 : a.tmps[134]? = some (.bool true) := by rw [ha]; exact putSel_on (e := (32, 134, .bool true)) 30 rfl rfl (hon 32 (by kernel_rfl)) rfl
                replace ha := Aside0.mk ha
                have HW := Aside0.mk Q_HW
                refine value_ (w1 := w') (v := .bool true) (by rfl) rfl ?_ ?_
                · go_simp
                  (try simp only [i64_w])
                  try rfl
                refine hK.out _ _ ⟨(by rw [ha.out]; exact putSel_upk 31 hb_ rfl rfl rfl), Q_HW⟩
              refine steps_cons ?_ ?_
              · rintro b a w' ⟨ha, Q_HW⟩ hb_ hon hoff
                refine ⟨_, rfl, fun K hK => ?_⟩
                have e135 : a.tmps[135]? = some (.bool true) := by rw [ha]; exact putSel_on (e := (33, 135, .bool true)) 31 rfl rfl (hon 33 (by kernel_rfl)) rfl
                replace ha := Aside0.mk ha
                have HW := Aside0.mk Q_HW
                refine value_ (w1 := w') (v := .bool true) (by rfl) rfl ?_ ?_
                · go_simp
                  (try simp only [i64_w])
                  try rfl
                refine hK.out _ _ ⟨(by rw [ha.out]; exact putSel_upk 32 hb_ rfl rfl rfl), Q_HW⟩
              exact steps_nil
            · rintro b a w' hall ⟨ha, Q_HW⟩
              clear HW
              have hb1_ := hall 1 (by kernel_rfl)
              have hb3_ := hall 3 (by kernel_rfl)
              have hb4_ := hall 4 (by kernel_rfl)
              have hb5_ := hall 5 (by kernel_rfl)
              have hb6_ := hall 6 (by kernel_rfl)
              have hb7_ := hall 7 (by kernel_rfl)
              have hb8_ := hall 8 (by kernel_rfl)
              have hb9_ := hall 9 (by kernel_rfl)
              have hb10_ := hall 10 (by kernel_rfl)
              have hb11_ := hall 11 (by kernel_rfl)
              have hb12_ := hall 12 (by kernel_rfl)
              have hb13_ := hall 13 (by kernel_rfl)
              have hb14_ := hall 14 (by kernel_rfl)
              have hb15_ := hall 15 (by kernel_rfl)
              have hb16_ := hall 16 (by kernel_rfl)
              have hb17_ := hall 17 (by kernel_rfl)
              have hb18_ := hall 18 (by kernel_rfl)
              have hb19_ := hall 19 (by kernel_rfl)
              have hb20_ := hall 20 (by kernel_rfl)
              have hb21_ := hall 21 (by kernel_rfl)
              have hb22_ := hall 22 (by kernel_rfl)
              have hb23_ := hall 23 (by kernel_rfl)
              have hb24_ := hall 24 (by kernel_rfl)
              have hb25_ := hall 25 (by kernel_rfl)
              have hb26_ := hall 26 (by kernel_rfl)
              have hb27_ := hall 27 (by kernel_rfl)
              have hb28_ := hall 28 (by kernel_rfl)
              have hb29_ := hall 29 (by kernel_rfl)
              have hb30_ := hall 30 (by kernel_rfl)
              have hb31_ := hall 31 (by kernel_rfl)
              have hb32_ := hall 32 (by kernel_rfl)
              have hb33_ := hall 33 (by kernel_rfl)
              have hb34_ := hall 34 (by kernel_rfl)
              subst ha
              simp only [putSel, hb1_, hb3_, hb4_, hb5_, hb6_, hb7_, hb8_, hb9_, hb10_, hb11_, hb12_, hb13_, hb14_, hb15_, hb16_, hb17_, hb18_, hb19_, hb20_, hb21_, hb22_, hb23_, hb24_, hb25_, hb26_, hb27_, hb28_, hb29_, hb30_, hb31_, hb32_, hb33_, hb34_, if_true, Act.put, List.setIfInBounds_toArray, List.set_cons_zero, List.set_cons_succ]
              have HW := Aside0.mk Q_HW
              clear Q_HW
              clear hall hb1_ hb3_ hb4_ hb5_ hb6_ hb7_ hb8_ hb9_ hb10_ hb11_ hb12_ hb13_ hb14_ hb15_ hb16_ hb17_ hb18_ hb19_ hb20_ hb21_ hb22_ hb23_ hb24_ hb25_ hb26_ hb27_ hb28_ hb29_ hb30_ hb31_ hb32_ hb33_ hb34_
              go_wp2
              go_ret
              exact ⟨rfl, below_step HB1.out HW.out⟩
theorem trees_row (a : Option Addr) (len cap : Nat) (zs : List Int) (x : Int) (w : World) (h : (a = none ∧ len = 0 ∧ cap = 0 ∧ zs = []) ∨ ∃ x, a = some x ∧ len ≤ cap ∧ cap ≤ maxLen ∧ zs.length = cap ∧ (∀ i, i < zs.length → w.cell? (x.add i) = some (.int .i64 (zs.getD i 0))) ∧ ∀ n ∈ zs, (Lit.int .i64 n).wf = true) (hy : len * 8 ≤ 140737488351232) (hx : (Lit.int .i64 x).wf = true) :
    Calls Try.prog 4 #[.slice a len cap, .int .i64 x] w fun e w' => e = .returned (.bool true) ∧ Below w.heap.size w w' := by
  obtain ⟨l, rfl, hr, hm, hw, hc⟩ := ReadsInt.ofRowC h
  exact trees_calls a cap l x w (Kd.C_of_reads (d := (0 : Int)) (h1 := fun _ => rfl) hr)
end Go.Proofs.Ytcbaclmijdoenaa.Lg

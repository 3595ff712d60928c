/-
  NumOrder's walk: the bytes of two numbers in order.
-/
import Derived.Test.YtnljhdfmhhmdkaaRuns7
import Derived.OpenShut
namespace Go.Proofs.Ytnljhdfmhhmdkaa.Rd
open Go.RowKit Go.ChangeShapes Go.Proofs.YtnljhdfmhhmdkaaW.PrintWords Go.Proofs.YtnljhdfmhhmdkaaW.PrintLast Go.Proofs.YtnljhdfmhhmdkaaW.PrintMore
set_option linter.unusedVariables false
set_option linter.unusedSimpArgs false

/-- Is the first byte that differs the smaller one? -/
def lexLess : List Int → List Int → Bool
  | x :: xs, y :: ys => if x = y then lexLess xs ys else decide (x < y)
  | _, _ => false
theorem lexLess_at : ∀ (k : Nat) (xs ys : List Int), k < xs.length → k < ys.length → xs.take k = ys.take k → xs.getD k 0 ≠ ys.getD k 0 → lexLess xs ys = decide (xs.getD k 0 < ys.getD k 0) := by
  intro k
  induction k with
  | zero =>
    intro xs ys hx hy _ hne
    cases xs with
    | nil => simp at hx
    | cons x xs => cases ys with
      | nil => simp at hy
      | cons y ys => simp at hne; simp [lexLess, hne]
  | succ k ih =>
    intro xs ys hx hy he hne
    cases xs with
    | nil => simp at hx
    | cons x xs => cases ys with
      | nil => simp at hy
      | cons y ys =>
        simp at he
        obtain ⟨rfl, he⟩ := he
        simp at hx hy hne
        simp only [lexLess, if_pos, List.getD_cons_succ]
        exact ih xs ys hx hy he (by simpa using hne)
theorem lexLess_same : ∀ xs : List Int, lexLess xs xs = false
  | [] => rfl
  | x :: xs => by simp [lexLess, lexLess_same xs]

/-- A number out of its bytes. -/
theorem digits (n : Int) (h1 : -9223372036854775808 ≤ n) (h2 : n ≤ 9223372036854775807) :
    n = (if n < 0 then -18446744073709551616 else 0) + byteAt n 0 * 72057594037927936 + byteAt n 1 * 281474976710656 + byteAt n 2 * 1099511627776 + byteAt n 3 * 4294967296 + byteAt n 4 * 16777216 + byteAt n 5 * 65536 + byteAt n 6 * 256 + byteAt n 7 := by
  unfold byteAt
  simp only [Nat.reduceSub, Nat.reduceMul, Int.reducePow]
  split <;> omega
theorem byteAt_bd (n : Int) (j : Nat) : 0 ≤ byteAt n j ∧ byteAt n j < 256 := by unfold byteAt; omega
theorem top_byte (n : Int) (h1 : -9223372036854775808 ≤ n) (h2 : n ≤ 9223372036854775807) : decide (128 ≤ byteAt n 0) = decide (n < 0) := by
  unfold byteAt
  simp only [Nat.reduceSub, Nat.reduceMul, Int.reducePow, decide_eq_decide]
  omega
theorem be8_inj (n m : Int) (h1 : -9223372036854775808 ≤ n) (h2 : n ≤ 9223372036854775807) (h3 : -9223372036854775808 ≤ m) (h4 : m ≤ 9223372036854775807) : be8 n = be8 m ↔ n = m := by
  constructor
  · intro h
    unfold be8 at h
    simp only [List.cons.injEq, and_true] at h
    obtain ⟨a0, a1, a2, a3, a4, a5, a6, a7⟩ := h
    have t1 := top_byte n h1 h2
    have t2 := top_byte m h3 h4
    rw [a0, t2] at t1
    have d1 := digits n h1 h2
    have d2 := digits m h3 h4
    rw [a0, a1, a2, a3, a4, a5, a6, a7] at d1
    have t3 : m < 0 ↔ n < 0 := by simpa using t1
    split at d1 <;> split at d2 <;> omega
  · rintro rfl; rfl
theorem lex_order (n m : Int) (h1 : -9223372036854775808 ≤ n) (h2 : n ≤ 9223372036854775807) (h3 : -9223372036854775808 ≤ m) (h4 : m ≤ 9223372036854775807) (hs : n < 0 ↔ m < 0) : lexLess (be8 n) (be8 m) = decide (n < m) := by
  have d1 := digits n h1 h2
  have d2 := digits m h3 h4
  have e : (if n < 0 then (-18446744073709551616 : Int) else 0) = (if m < 0 then -18446744073709551616 else 0) := by
    by_cases h : n < 0
    · rw [if_pos h, if_pos (hs.1 h)]
    · rw [if_neg h, if_neg (fun h' => h (hs.2 h'))]
  rw [e] at d1
  generalize (if m < 0 then (-18446744073709551616 : Int) else 0) = z at *
  have b0 := byteAt_bd n 0; have b1 := byteAt_bd n 1; have b2 := byteAt_bd n 2; have b3 := byteAt_bd n 3; have b4 := byteAt_bd n 4; have b5 := byteAt_bd n 5; have b6 := byteAt_bd n 6; have b7 := byteAt_bd n 7
  have c0 := byteAt_bd m 0; have c1 := byteAt_bd m 1; have c2 := byteAt_bd m 2; have c3 := byteAt_bd m 3; have c4 := byteAt_bd m 4; have c5 := byteAt_bd m 5; have c6 := byteAt_bd m 6; have c7 := byteAt_bd m 7
  unfold be8
  generalize byteAt n 0 = n0 at *; generalize byteAt n 1 = n1 at *; generalize byteAt n 2 = n2 at *; generalize byteAt n 3 = n3 at *; generalize byteAt n 4 = n4 at *; generalize byteAt n 5 = n5 at *; generalize byteAt n 6 = n6 at *; generalize byteAt n 7 = n7 at *
  generalize byteAt m 0 = m0 at *; generalize byteAt m 1 = m1 at *; generalize byteAt m 2 = m2 at *; generalize byteAt m 3 = m3 at *; generalize byteAt m 4 = m4 at *; generalize byteAt m 5 = m5 at *; generalize byteAt m 6 = m6 at *; generalize byteAt m 7 = m7 at *
  simp only [lexLess]
  by_cases e0 : n0 = m0
  · rw [if_pos e0]
    by_cases e1 : n1 = m1
    · rw [if_pos e1]
      by_cases e2 : n2 = m2
      · rw [if_pos e2]
        by_cases e3 : n3 = m3
        · rw [if_pos e3]
          by_cases e4 : n4 = m4
          · rw [if_pos e4]
            by_cases e5 : n5 = m5
            · rw [if_pos e5]
              by_cases e6 : n6 = m6
              · rw [if_pos e6]
                by_cases e7 : n7 = m7
                · rw [if_pos e7]; simp; omega
                · rw [if_neg e7, decide_eq_decide]; omega
              · rw [if_neg e6, decide_eq_decide]; omega
            · rw [if_neg e5, decide_eq_decide]; omega
          · rw [if_neg e4, decide_eq_decide]; omega
        · rw [if_neg e3, decide_eq_decide]; omega
      · rw [if_neg e2, decide_eq_decide]; omega
    · rw [if_neg e1, decide_eq_decide]; omega
  · rw [if_neg e0, decide_eq_decide]; omega

theorem be8s_one (n : Int) : be8s [n] = be8 n := by simp [be8s]

set_option maxHeartbeats 1600000 in
theorem order_calls (n m : Int) (w : World) (h1 : -9223372036854775808 ≤ n) (h2 : n ≤ 9223372036854775807) (h3 : -9223372036854775808 ≤ m) (h4 : m ≤ 9223372036854775807) :
    Calls Try.prog 4 #[.int .i64 n, .int .i64 m] w fun e w' => e = .returned (.bool true) ∧ Below w.heap.size w w' := by
  have hn8 : (be8 n).length = 8 := rfl
  have hm8 : (be8 m).length = 8 := rfl
  go_enter Try.func4, Try.ntmps4
  go_wp2_with fail
  refine (made_reads (num_calls (some ⟨w.heap.size, 0, none⟩) 1 [n] _ (C_lit .i64 [n] w 3 (by simp)) (by simp))).mono ?_
  rintro e w1 ⟨A1, c1, rfl, hc1, hC1, hB1⟩
  rw [be8s_one] at hC1 hc1 ⊢
  have HB1 := Aside0.mk (below_step (below_alloc (Below.refl w.heap.size w) _) hB1)
  have HC1 := Aside0.mk hC1
  clear hB1 hC1
  go_wp2_with fail
  refine (made_reads (num_calls (some ⟨w1.heap.size, 0, none⟩) 1 [m] _ (C_lit .i64 [m] w1 3 (by simp)) (by simp))).mono ?_
  rintro e w2 ⟨A2, c2, rfl, hc2, hC2, hB2⟩
  rw [be8s_one] at hC2 hc2 ⊢
  have hb2 := below_step (below_alloc (Below.refl w1.heap.size w1) _) hB2
  have HB2 := Aside0.mk (below_step HB1.out hb2)
  have HX := Aside0.mk (Kd.C_below HC1.out hb2)
  have HY := Aside0.mk hC2
  clear hB2 hC2 hb2 HB1 HC1
  rw [hm8] at hc2 HY ⊢
  have HL1 := Lib.hid hn8
  have HL2 := Lib.hid hm8
  clear hn8 hm8
  go_upto_block 0 with fail
  go_cut [7] (fun v wc => v = .bool (lexLess (be8 n) (be8 m)) ∧ Drawn0 w2 wc)
  case first =>
    go_wp2_with fail
    go_loopw [7, 26] (fun v i wr => v = .bool false ∧ (∃ k : Nat, k ≤ 8 ∧ i = .int .i64 k ∧ Aside0 ((be8 n).take k = (be8 m).take k)) ∧ Drawn0 w2 wr) (fun _ i _ => 8 - (intOf i).toNat)
    case atStart => exact ⟨rfl, ⟨0, by omega, rfl, ⟨by simp⟩⟩, Drawn0.refl _⟩
    case round =>
      obtain ⟨rfl, ⟨k, hk, rfl, HE⟩, ⟨q, rfl⟩⟩ := hrel
      by_cases hlt : k < 8
      · obtain ⟨ad, rfl, hcx⟩ := bytes_at HX.out k hlt
        obtain ⟨bd, rfl, hcy⟩ := bytes_at HY.out k hlt
        have HLX := Lib.hid (lexLess_at k (be8 n) (be8 m) (by rw [HL1.out]; exact hlt) (by rw [HL2.out]; exact hlt) HE.out)
        obtain ⟨x, hgx⟩ : ∃ x : Int, (be8 n).getD k 0 = x := ⟨_, rfl⟩
        obtain ⟨y, hgy⟩ : ∃ y : Int, (be8 m).getD k 0 = y := ⟨_, rfl⟩
        rw [hgx] at hcx
        rw [hgy] at hcy
        rw [hgx, hgy] at HLX
        have hex : (be8 n).take (k + 1) = (be8 n).take k ++ [x] := by rw [List.take_succ_eq_append_getElem (by rw [HL1.out]; exact hlt), ← hgx, List.getD_eq_getElem?_getD, List.getElem?_eq_getElem (by rw [HL1.out]; exact hlt)]; rfl
        have hey : (be8 m).take (k + 1) = (be8 m).take k ++ [y] := by rw [List.take_succ_eq_append_getElem (by rw [HL2.out]; exact hlt), ← hgy, List.getD_eq_getElem?_getD, List.getElem?_eq_getElem (by rw [HL2.out]; exact hlt)]; rfl
        have HEX := Lib.hid hex
        have HEY := Lib.hid hey
        clear hgx hgy hex hey
        by_cases hxy : x = y
        · subst hxy
          go_wp2
          repeat (go_quiet (fail); try go_wp2)
          go_roundw
          case rel => exact ⟨rfl, ⟨k + 1, by omega, by go_num, ⟨by rw [HEX.out, HEY.out, HE.out]⟩⟩, by repeat (first | exact Drawn0.refl _ | apply Drawn0.step)⟩
          case measure => simp [intOf]; omega
        · have hb1 : (x == y) = false := by simpa using hxy
          have hb2 : (x != y) = true := by simpa using hxy
          have HN := Lib.hid (HLX.out hxy)
          clear hxy
          go_wp2
          repeat (go_quiet (fail); try go_wp2)
          go_meet
          case rel => exact ⟨by rw [HN.out], by repeat (first | exact Drawn0.refl _ | apply Drawn0.step)⟩
      · obtain rfl : k = 8 := by omega
        have hs : lexLess (be8 n) (be8 m) = false := by
          have := HE.out
          rw [List.take_of_length_le (by rw [HL1.out]; omega), List.take_of_length_le (by rw [HL2.out]; omega)] at this
          rw [this, lexLess_same]
        have HS := Lib.hid hs
        clear hs
        go_wp2
        go_meet
        case rel => exact ⟨by rw [HS.out], by repeat (first | exact Drawn0.refl _ | apply Drawn0.step)⟩
  case rest =>
    obtain ⟨rfl, ⟨q, rfl⟩⟩ := hcut
    have HT := Lib.hid (top_byte n h1 h2)
    have HO := Lib.hid (lex_order n m h1 h2 h3 h4)
    have HJ := Lib.hid (be8_inj n m h1 h2 h3 h4)
    obtain ⟨ad, rfl, hc0⟩ := bytes_at HX.out 0 (by rw [HL1.out]; omega)
    rw [add_zero_] at hc0
    replace hc0 : w2.cell? ad = some (.int .u8 (byteAt n 0)) := hc0
    generalize lexLess (be8 n) (be8 m) = L at *
    generalize byteAt n 0 = x0 at *
    have fin : ∀ D : Bool, decide (be8 n = be8 m) = D → Calls Try.prog 10 #[.slice (some ad) 8 c1, .slice A2 8 c2] (w2.drewN q) fun e w' => e = .returned (.bool D) ∧ Drawn0 (w2.drewN q) w' := by
      intro D hD
      subst hD
      exact same_u8 (some ad) c1 (be8 n) A2 c2 (be8 m) _ (Kd.C_drewN HX.out _) (Kd.C_drewN HY.out _)
    have FIN := Lib.hid fin
    clear fin
    by_cases hnm : n = m
    · have hL : L = false := by rw [HO.out (by rw [hnm])]; simp; omega
      have HD := Lib.hid (FIN.out true (by simp [hnm]))
      subst hL
      have hnm' : (n == m) = true := by simp [hnm]
      have hlt' : decide (n < m) = false := by simp; omega
      by_cases hneg : n < 0
      · have hm' : m < 0 := by omega
        have h128 : 128 ≤ x0 := by have := HT.out; rw [decide_eq_decide] at this; omega
        clear hnm HJ HO HT FIN
        go_wp2_with (first | (go_at_call 10; refine HD.out.mono ?_; rintro e w' ⟨rfl, ⟨nd, rfl⟩⟩) | (go_at_call 3; refine (runs_calls _).mono ?_; rintro e w4 ⟨rfl, hb4⟩; have HB4 := Aside0.mk (below_step (by (with_reducible repeat (first | exact HB2.out | apply pw_below_drewN))) hb4); clear hb4))
        go_ret
        exact ⟨rfl, HB4.out⟩
      · have hm' : ¬ m < 0 := by omega
        have h128 : ¬ 128 ≤ x0 := by have := HT.out; rw [decide_eq_decide] at this; omega
        clear hnm HJ HO HT FIN
        go_wp2_with (first | (go_at_call 10; refine HD.out.mono ?_; rintro e w' ⟨rfl, ⟨nd, rfl⟩⟩) | (go_at_call 3; refine (runs_calls _).mono ?_; rintro e w4 ⟨rfl, hb4⟩; have HB4 := Aside0.mk (below_step (by (with_reducible repeat (first | exact HB2.out | apply pw_below_drewN))) hb4); clear hb4))
        go_ret
        exact ⟨rfl, HB4.out⟩
    · have HD := Lib.hid (FIN.out false (by simp [HJ.out, hnm]))
      have hnm' : (n == m) = false := by simpa using hnm
      by_cases hneg : n < 0
      · have h128 : 128 ≤ x0 := by have := HT.out; rw [decide_eq_decide] at this; omega
        by_cases hm' : m < 0
        · obtain rfl := HO.out (by omega)
          clear hnm HJ HO HT FIN
          go_wp2_with (first | (go_at_call 10; refine HD.out.mono ?_; rintro e w' ⟨rfl, ⟨nd, rfl⟩⟩) | (go_at_call 3; refine (runs_calls _).mono ?_; rintro e w4 ⟨rfl, hb4⟩; have HB4 := Aside0.mk (below_step (by (with_reducible repeat (first | exact HB2.out | apply pw_below_drewN))) hb4); clear hb4))
          go_ret
          exact ⟨rfl, HB4.out⟩
        · clear hnm HJ HO HT FIN
          go_wp2_with (first | (go_at_call 10; refine HD.out.mono ?_; rintro e w' ⟨rfl, ⟨nd, rfl⟩⟩) | (go_at_call 3; refine (runs_calls _).mono ?_; rintro e w4 ⟨rfl, hb4⟩; have HB4 := Aside0.mk (below_step (by (with_reducible repeat (first | exact HB2.out | apply pw_below_drewN))) hb4); clear hb4))
          go_ret
          exact ⟨rfl, HB4.out⟩
      · have h128 : ¬ 128 ≤ x0 := by have := HT.out; rw [decide_eq_decide] at this; omega
        by_cases hm' : m < 0
        · clear hnm HJ HO HT FIN
          go_wp2_with (first | (go_at_call 10; refine HD.out.mono ?_; rintro e w' ⟨rfl, ⟨nd, rfl⟩⟩) | (go_at_call 3; refine (runs_calls _).mono ?_; rintro e w4 ⟨rfl, hb4⟩; have HB4 := Aside0.mk (below_step (by (with_reducible repeat (first | exact HB2.out | apply pw_below_drewN))) hb4); clear hb4))
          go_ret
          exact ⟨rfl, HB4.out⟩
        · obtain rfl := HO.out (by omega)
          clear hnm HJ HO HT FIN
          go_wp2_with (first | (go_at_call 10; refine HD.out.mono ?_; rintro e w' ⟨rfl, ⟨nd, rfl⟩⟩) | (go_at_call 3; refine (runs_calls _).mono ?_; rintro e w4 ⟨rfl, hb4⟩; have HB4 := Aside0.mk (below_step (by (with_reducible repeat (first | exact HB2.out | apply pw_below_drewN))) hb4); clear hb4))
          go_ret
          exact ⟨rfl, HB4.out⟩
theorem order_walk (n m : Int) (w : World) (hn : (Lit.int .i64 n).wf = true) (hm : (Lit.int .i64 m).wf = true) :
    Calls Try.prog 4 #[.int .i64 n, .int .i64 m] w fun e w' => e = .returned (.bool true) ∧ Below w.heap.size w w' :=
  order_calls n m w (bounds_i64 hn).1 (bounds_i64 hn).2 (bounds_i64 hm).1 (bounds_i64 hm).2
end Go.Proofs.Ytnljhdfmhhmdkaa.Rd

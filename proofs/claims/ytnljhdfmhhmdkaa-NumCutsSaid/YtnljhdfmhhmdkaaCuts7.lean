/-
  NumCuts' walk: a text's length says how much is read; what is asked beyond is nothing, from then on for ever.
-/
import Derived.Test.YtnljhdfmhhmdkaaMany7
import Derived.Deep.RegionWith
import Derived.IntWalk
namespace Go.Proofs.Ytnljhdfmhhmdkaa.Rd
open Go.RowKit Go.ChangeShapes Go.Proofs.YtnljhdfmhhmdkaaW.PrintWords Go.Proofs.YtnljhdfmhhmdkaaW.PrintLast Go.Proofs.YtnljhdfmhhmdkaaW.PrintMore
attribute [local go_sem] max2_int min2_int max_two min_two max_three min_three max_four min_four
set_option linter.unusedVariables false
set_option linter.unusedSimpArgs false

theorem byte1_at (b : List Int) (k : Nat) (h : k < b.length) : byte1 (b.drop k) false = (b.getD k 0, b.drop (k + 1), false) := by
  rw [List.drop_eq_getElem_cons h, List.getD_eq_getElem?_getD, List.getElem?_eq_getElem h]
  simp [byte1]
theorem byte1_end (b : List Int) : byte1 (b.drop b.length) false = (0, [], true) := by simp [byte1]
theorem byte1_bad (b : List Int) : byte1 b true = (0, b, true) := by simp [byte1]
theorem be8_numOf (l : List Int) (h : l.length = 8) (hb : Byt l) : be8 (wrap64 (numOf l)) = l := by
  match l, h with
  | [b0, b1, b2, b3, b4, b5, b6, b7], _ =>
    have h0 := hb b0 (by simp); have h1 := hb b1 (by simp); have h2 := hb b2 (by simp); have h3 := hb b3 (by simp); have h4 := hb b4 (by simp); have h5 := hb b5 (by simp); have h6 := hb b6 (by simp); have h7 := hb b7 (by simp)
    have e : numOf [b0, b1, b2, b3, b4, b5, b6, b7] = b0 * 72057594037927936 + b1 * 281474976710656 + b2 * 1099511627776 + b3 * 4294967296 + b4 * 16777216 + b5 * 65536 + b6 * 256 + b7 := by
      unfold numOf
      simp only [List.foldl_cons, List.foldl_nil]
      omega
    rw [e]
    clear e hb
    unfold be8 byteAt wrap64
    simp only [Nat.reduceSub, Nat.reduceMul, Int.reducePow, List.cons.injEq, and_true]
    refine ⟨?_, ?_, ?_, ?_, ?_, ?_, ?_, ?_⟩ <;> omega
theorem number1_at (b : List Int) (k : Nat) (h : k + 8 ≤ b.length) (hb : Byt b) : ∃ n : Int, number1 (b.drop k) false = (n, b.drop (k + 8), false) ∧ be8 n = (b.take (k + 8)).drop k := by
  have hl : ((b.drop k).take 8).length = 8 := by rw [List.length_take, List.length_drop]; omega
  refine ⟨wrap64 (numOf ((b.drop k).take 8)), ?_, ?_⟩
  · unfold number1
    rw [if_neg (by simp; omega), List.drop_drop]
  · rw [be8_numOf _ hl (fun x hx => hb x (List.mem_of_mem_drop (List.mem_of_mem_take hx))), List.drop_take]
    congr 1
    omega
theorem number1_end (b : List Int) (k : Nat) (h : b.length < k + 8) (hk : k ≤ b.length) : number1 (b.drop k) false = (0, b.drop k, true) := by
  unfold number1
  rw [if_pos (by simp; omega)]
theorem number1_bad (b : List Int) : number1 b true = (0, b, true) := by simp [number1]
theorem text1_at (b : List Int) (k m : Nat) (h : k < b.length) (hm : b.getD k 0 = (m : Int)) (hk : k + (1 + m) ≤ b.length) : text1 (b.drop k) false = (strOfNums ((b.take (k + (1 + m))).drop (k + 1)), b.drop (k + (1 + m)), false) := by
  unfold text1
  rw [byte1_at b k h]
  simp only [hm]
  unfold takes
  rw [if_neg (by simp; omega)]
  simp only [Int.toNat_natCast, List.drop_drop]
  rw [List.drop_take, show k + (1 + m) - (k + 1) = m by omega, show k + 1 + m = k + (1 + m) by omega]
theorem text1_over (b : List Int) (k m : Nat) (h : k < b.length) (hm : b.getD k 0 = (m : Int)) (hk : b.length < k + (1 + m)) : text1 (b.drop k) false = (⟨#[]⟩, b.drop (k + 1), true) := by
  unfold text1
  rw [byte1_at b k h]
  simp only [hm]
  unfold takes
  rw [if_pos (by simp; omega)]
  simp [strOfNums]
theorem text1_end (b : List Int) : text1 (b.drop b.length) false = (⟨#[]⟩, [], true) := by
  unfold text1
  rw [byte1_end]
  simp [takes, strOfNums]
theorem text1_bad (b : List Int) : text1 b true = (⟨#[]⟩, b, true) := by
  unfold text1
  rw [byte1_bad]
  simp [takes, strOfNums]

theorem one_reads (n : Int) (w : World) : Calls Try.prog 11 #[.slice (some ⟨w.heap.size, 0, none⟩) 1 1] (w.alloc (.cells #[.int .i64 n] 3)) fun e w' => ∃ A c, e = .returned (.slice A 8 c) ∧ 8 ≤ c ∧ Kd.C (Kd.int .u8) w' A 8 (be8 n) ∧ Below w.heap.size w w' := by
  refine (made_reads (num_calls (some ⟨w.heap.size, 0, none⟩) 1 [n] _ (C_lit .i64 [n] w 3 (by simp)) (by simp))).mono ?_
  rintro e w6 ⟨A6, c6, rfl, hc6, hC6, hB6⟩
  rw [be8s_one] at hC6 hc6 ⊢
  exact ⟨A6, c6, rfl, hc6, hC6, below_step (below_alloc (Below.refl w.heap.size w) _) hB6⟩
theorem mid_u8 (A : Option Addr) (c : Nat) (l : List Int) (i j : Nat) (h0 : i ≤ j) (hj : j ≤ l.length) (hc : l.length ≤ c) :
    ∃ A' : Option Addr, (∀ W : World, (Instr.slice 24 (.slice A l.length c) (some (.int .i64 (i : Int))) (some (.int .i64 (j : Int))) none).run Try.prog W = .ok (.slice A' ((l.take j).drop i).length (c - i)) W) ∧
      (∀ w, Kd.C (Kd.int .u8) w A l.length l → Kd.C (Kd.int .u8) w A' ((l.take j).drop i).length ((l.take j).drop i)) := by
  obtain ⟨i0, hi0, _, hsz0, _⟩ := info_parts infoU8
  obtain ⟨A', h1, h2, h3⟩ := print_mid_of (P := Try.prog) (Value.int .u8) 0 24 5 .i64 .i64 Try.underlying24 hi0 hsz0 A c l (i : Int) (j : Int) (by omega) (by omega) (by omega) hc
  simp only [Int.toNat_natCast] at h1 h2
  exact ⟨A', h1, fun w h => Kd.C_of_reads (h1 := fun _ => rfl) (h2 w (Kd.reads_of_C h))⟩
/-- How a reader of b stands at k: all was good so far, or something was asked that isn't there. -/
def Stands (b : List Int) (k : Nat) (good : Bool) (bs : List Int) (bad : Bool) : Prop := (good = true → bad = false ∧ bs = b.drop k) ∧ (good = false → bad = true ∧ k = b.length)

set_option maxRecDepth 100000 in
set_option maxHeartbeats 16000000 in
theorem cuts_calls (A0 : Option Addr) (c0 : Nat) (l : List Int) (A9 : Option Addr) (c9 : Nat) (asks : List Int) (w : World) (hr : Kd.C (Kd.int .u8) w A0 l.length l) (hc : l.length ≤ c0) (hwf : Byt l) (ha : Kd.C (Kd.int .i64) w A9 asks.length asks) :
    Calls Try.prog 6 #[.slice A0 l.length c0, .slice A9 asks.length c9] w fun e w' => e = .returned (.bool true) ∧ Below w.heap.size w w' := by
  have HR := Aside0.mk hr
  have HC := Aside0.mk hc
  have HW := Aside0.mk hwf
  have HA := Aside0.mk ha
  have hma : asks.length ≤ 9223372036854775807 := ha.2.1
  clear hr hc hwf ha
  go_enter Try.func6, Try.ntmps6
  go_upto_region 1 with fail
  go_cut [5] (fun v wc => Aside0 (SlB wc v (l.take 40)) ∧ Aside0 (Below w.heap.size w wc))
  case first =>
    by_cases h12 : l.length ≤ 40
    · obtain ⟨hcut, hrd, hln⟩ := cut_u8 A0 c0 l (l.length : Int) l.length (by omega) (by omega) (by omega) HC.out
      have HO := Aside0.mk (hrd w HR.out)
      rw [List.take_length] at HO
      have HT : Hid (l.take 40 = l) := Lib.hid (List.take_of_length_le h12)
      clear hrd hln
      go_wp2_with (first | ((with_reducible refine gate_builtin (b := .append) (xs := #[.tmp 15, .tmp 20]) rfl ?_); at_builtin; refine Kd.R_append_row (Value.int .u8) (0 : Int) (h1 := fun _ => rfl) (w0 := w) (w.heap.size) rfl (.tmp 15) (.tmp 20) 24 5 (.int .u8 0) 1 rfl Try.underlying24 infoU8 rfl (by decide) (.slice (some ⟨w.heap.size, 0, none⟩) 0 0) ([]) (l) (A0) (l.length) (c0) (fun _ => True) rfl rfl (fun _ _ => trivial) ?aO ?aR ?aB ?aS ?aL ?_; (case aO => exact own_empty w); (case aR => exact Kd.C_alloc HO.out _); (case aB => exact below_alloc (Below.refl _ _) _); (case aS => exact (below_size (by exact below_alloc (Below.refl _ _) _))); (case aL => (first | omega | (simp; done) | (simp; omega))); intro v1 w1 ho hb hg hat; simp only [List.nil_append] at ho; obtain ⟨A1, c1, rfl, hc1, hr1⟩ := Kd.R_reads ho; have HO1 := Aside0.mk hr1; have HC1 := Aside0.mk hc1; have HB := Aside0.mk hb; clear ho hb hg hat hr1 hc1))
      go_meet
      case rel => exact ⟨⟨by rw [HT.out]; exact ⟨A1, c1, rfl, HC1.out, HO1.out⟩⟩, HB⟩
    · obtain ⟨hcut, hrd, hln⟩ := cut_u8 A0 c0 l 40 40 (by omega) (by omega) (by omega) HC.out
      have HO := Aside0.mk (hrd w HR.out)
      have HL := Lib.hid hln
      clear hrd hln
      go_wp2_with (first | ((with_reducible refine gate_builtin (b := .append) (xs := #[.tmp 15, .tmp 20]) rfl ?_); at_builtin; refine Kd.R_append_row (Value.int .u8) (0 : Int) (h1 := fun _ => rfl) (w0 := w) (w.heap.size) rfl (.tmp 15) (.tmp 20) 24 5 (.int .u8 0) 1 rfl Try.underlying24 infoU8 rfl (by decide) (.slice (some ⟨w.heap.size, 0, none⟩) 0 0) ([]) (l.take 40) (A0) (40) (c0) (fun _ => True) rfl rfl (fun _ _ => trivial) ?aO ?aR ?aB ?aS ?aL ?_; (case aO => exact own_empty w); (case aR => exact Kd.C_alloc HO.out _); (case aB => exact below_alloc (Below.refl _ _) _); (case aS => exact (below_size (by exact below_alloc (Below.refl _ _) _))); (case aL => (first | omega | (simp; done) | (simp; omega))); intro v1 w1 ho hb hg hat; simp only [List.nil_append] at ho; obtain ⟨A1, c1, rfl, hc1, hr1⟩ := Kd.R_reads ho; have HO1 := Aside0.mk hr1; have HC1 := Aside0.mk hc1; have HB := Aside0.mk hb; clear ho hb hg hat hr1 hc1))
      go_meet
      case rel => exact ⟨⟨A1, c1, by rw [List.length_take], HC1.out, HO1.out⟩, HB⟩
  case rest =>
    obtain ⟨⟨A1, c1, rfl, hc1, hr1⟩, HB⟩ := hcut
    have hb40 : (l.take 40).length ≤ 40 := by rw [List.length_take]; omega
    have HY : Aside0 (Byt (l.take 40)) := ⟨fun n hn => HW.out n (List.mem_of_mem_take hn)⟩
    generalize l.take 40 = b at *
    have HR1 := Aside0.mk hr1
    have HC1 := Aside0.mk hc1
    have HA1 := Aside0.mk (Kd.C_below HA.out HB.out)
    clear hr1 hc1 HW HR HC HA
    go_wp2_with fail
    refine (roomy_u8 A1 c1 b 7 wc HR1.out (by omega)).mono ?_
    rintro e w2 ⟨A2, c2, rfl, hc2, hC2, hB2⟩
    have hl2 : (b ++ List.replicate 80 7).length = b.length + 80 := by simp
    obtain ⟨hcut, hrd, _⟩ := cut_u8 A2 c2 (b ++ List.replicate 80 7) (b.length : Int) b.length (by omega) (by omega) (by rw [hl2]; omega) (by rw [hl2]; exact hc2)
    have hr2 := hrd w2 (by rw [hl2]; exact hC2)
    rw [List.take_left' rfl] at hr2
    rw [hl2] at hcut
    have HR2 := Aside0.mk hr2
    have HF2 := Aside0.mk hC2
    have HB2 := Aside0.mk (below_then HB.out HB.out.size hB2)
    have HRb := Aside0.mk (Kd.C_below HR1.out hB2)
    have HA2 := Aside0.mk (Kd.C_below HA1.out hB2)
    have HC2 := Aside0.mk hc2
    clear hrd hr2 hC2 hB2 hl2 hc2 HR1 HB HA1
    go_wp2_with fail
    refine (read_calls A2 c2 b w2 HR2.out HY.out (by omega)).mono ?_
    rintro e w3 ⟨w0, g, rfl, hI, hb0, hb1⟩
    have HI := Aside0.mk hI
    have HB1 := Aside0.mk hb1
    have HB0 := Aside0.mk (below_then HB2.out HB2.out.size hb0)
    have HF := Aside0.mk (Kd.C_below HF2.out hb0)
    have HB := Aside0.mk (Kd.C_below HRb.out hb0)
    have HA := Aside0.mk (Kd.C_below HA2.out hb0)
    clear hI hb0 hb1 HF2 HB2 HRb HA2 HR2 hcut
    go_wp2
    go_loopw [8, 9, 10] (fun v8 v9 v10 wr => ∃ (k p : Nat) (good : Bool) (bs : List Int) (bad : Bool), k ≤ asks.length ∧ v10 = .int .i64 k ∧ p ≤ b.length ∧ v8 = .int .i64 p ∧ v9 = .bool good ∧ Aside0 (Stands b p good bs bad) ∧ Aside0 (IsRd w0 wr g bs bad) ∧ Aside0 (Below w0.heap.size w0 wr)) (fun _ _ i _ => asks.length - (intOf i).toNat)
    case atStart => exact ⟨0, 0, true, b, false, Nat.zero_le _, rfl, Nat.zero_le _, rfl, rfl, ⟨⟨fun _ => ⟨rfl, by simp⟩, fun h => by cases h⟩⟩, HI, HB1⟩
    case round =>
      clear HI HB1
      obtain ⟨k, p, good, bs, bad, hk, rfl, hp, rfl, rfl, HS, HI, HB1⟩ := hrel
      by_cases hk12 : k < asks.length ∧ k < 12
      · obtain ⟨hlt, hlt12⟩ := hk12
        obtain ⟨ad, rfl, hcell⟩ := nums_at HA.out k hlt
        replace hcell := (HB1.out.cell (World.block_lt_of_cell? w0 _ hcell)).trans hcell
        obtain ⟨y, hy⟩ : ∃ y, asks.getD k 0 = y := ⟨_, rfl⟩
        rw [hy] at hcell
        clear hy
        have hbd := within_bd y 0 2 (by omega)
        have HWI := Lib.hid (within_calls y 0 2 wr (by omega) (by omega) (by omega))
        generalize within y 0 2 = m at *
        obtain ⟨wo, hwo⟩ : ∃ wo : World, wo = wr := ⟨_, rfl⟩
        subst hwo
        go_upto_block 2 with ((go_at_call 18; refine HWI.out.mono ?_; rintro e w' ⟨rfl, rfl⟩))
        go_cut [11] (fun v wc => ∃ (d : Nat) (bs' : List Int) (bad' : Bool), v = .int .i64 d ∧ 1 ≤ d ∧ d ≤ 256 ∧ Aside0 ((good = true ∧ p + d ≤ b.length → bad' = false ∧ bs' = b.drop (p + d)) ∧ (¬ (good = true ∧ p + d ≤ b.length) → bad' = true)) ∧ Aside0 (IsRd w0 wc g bs' bad') ∧ Aside0 (Below w0.heap.size w0 wc))
        case first =>
          by_cases hm0 : m = 0
          · as_aux_lemma =>
            subst hm0
            have hby := byte_calls g bs bad w0 wo HI.out HB1.out
            cases good with
            | false =>
              obtain ⟨rfl, rfl⟩ := HS.out.2 rfl
              rw [byte1_bad] at hby
              have HBY := Lib.hid hby
              clear hby
              go_wp2_with (first | (go_at_call 20; refine HBY.out.mono ?_; rintro e w5 ⟨rfl, hI5, hB5, hK5⟩; have HI5 := Aside0.mk hI5; have HB5 := Aside0.mk hB5; clear hI5 hB5 hK5))
              go_meet
              case rel => exact ⟨1, bs, true, rfl, by omega, by omega, ⟨fun h => by simp at h, fun _ => rfl⟩, HI5, HB5⟩
            | true =>
              obtain ⟨rfl, rfl⟩ := HS.out.1 rfl
              by_cases hpl : p < b.length
              · rw [byte1_at b p hpl] at hby
                have HBY := Lib.hid hby
                clear hby
                obtain ⟨bd, rfl, hcb⟩ := bytes_at HB.out p hpl
                have hcb0 := hcb
                obtain ⟨x, hx⟩ : ∃ x, b.getD p 0 = x := ⟨_, rfl⟩
                rw [hx] at hcb0 HBY
                clear hcb hx
                have HCB := Lib.hid hcb0
                clear hcb0
                have hxx : (x != x) = false := by simp
                go_wp2_with (first | (go_at_call 20; refine HBY.out.mono ?_; rintro e w5 ⟨rfl, hI5, hB5, hK5⟩; have hcb5 := (hB5.cell (World.block_lt_of_cell? w0 _ HCB.out)).trans HCB.out; have HI5 := Aside0.mk hI5; have HB5 := Aside0.mk hB5; clear hI5 hB5 hK5))
                go_meet
                case rel => exact ⟨1, b.drop (p + 1), false, rfl, by omega, by omega, ⟨fun _ => ⟨rfl, rfl⟩, fun h => by exfalso; apply h; exact ⟨by simp, by omega⟩⟩, HI5, HB5⟩
              · obtain rfl : p = b.length := by omega
                rw [byte1_end] at hby
                have HBY := Lib.hid hby
                clear hby
                go_wp2_with (first | (go_at_call 20; refine HBY.out.mono ?_; rintro e w5 ⟨rfl, hI5, hB5, hK5⟩; have HI5 := Aside0.mk hI5; have HB5 := Aside0.mk hB5; clear hI5 hB5 hK5))
                go_meet
                case rel => exact ⟨1, [], true, rfl, by omega, by omega, ⟨fun h => by omega, fun _ => rfl⟩, HI5, HB5⟩
          · by_cases hm1 : m = 1
            · subst hm1
              clear hm0
              have hnu := number_calls g bs bad w0 wo HI.out HB1.out
              cases good with
              | false =>
                as_aux_lemma =>
                obtain ⟨rfl, rfl⟩ := HS.out.2 rfl
                rw [number1_bad] at hnu
                have HNU := Lib.hid hnu
                clear hnu
                go_upto_region 27 with ((go_at_call 17; refine HNU.out.mono ?_; rintro e w5 ⟨rfl, hI5, hB5, hK5⟩; have HI5 := Aside0.mk hI5; have HB5 := Aside0.mk hB5; clear hI5 hB5 hK5))
                have hw8 : IntKind.i64.wrap ((b.length : Int) + 8) = (b.length : Int) + 8 := IntWalk.i64_in _ (by omega)
                have hgt : decide ((b.length : Int) < (b.length : Int) + 8) = true := by simp; omega
                have hne0 : ((0 : Int) != 0) = false := rfl
                go_quiet (fail)
                go_wp2
                go_meet
                case rel => exact ⟨8, bs, true, rfl, by omega, by omega, ⟨fun h => by simp at h, fun _ => rfl⟩, ⟨HI5.out.drewN _⟩, ⟨pw_below_drewN HB5.out _⟩⟩
              | true =>
                obtain ⟨rfl, rfl⟩ := HS.out.1 rfl
                by_cases hpl : p + 8 ≤ b.length
                · as_aux_lemma =>
                  obtain ⟨n, hn1, hn2⟩ := number1_at b p hpl HY.out
                  rw [hn1] at hnu
                  have HNU := Lib.hid hnu
                  have hn8 : ((b.take (p + 8)).drop p).length = 8 := by rw [← hn2]; rfl
                  obtain ⟨A', hmid, hrm⟩ := mid_u8 A1 c1 b p (p + 8) (by omega) hpl HC1.out
                  rw [hn8, show ((p + 8 : Nat) : Int) = (p : Int) + 8 by omega] at hmid
                  have HRM : Aside0 (∀ w, Kd.C (Kd.int .u8) w A1 b.length b → Kd.C (Kd.int .u8) w A' 8 (be8 n)) := ⟨fun w h => by have := hrm w h; rw [hn8, ← hn2] at this; exact this⟩
                  clear hnu hn1 hn2 hn8 hrm
                  go_upto_region 27 with ((go_at_call 17; refine HNU.out.mono ?_; rintro e w5 ⟨rfl, hI5, hB5, hK5⟩; have HI5 := Aside0.mk hI5; have HB5 := Aside0.mk hB5; clear hI5 hB5 hK5))
                  go_cut [145] (fun v wx => v = .bool false ∧ Aside0 (IsRd w0 wx g (b.drop (p + 8)) false) ∧ Aside0 (Below w0.heap.size w0 wx))
                  case first =>
                    have hw8 : IntKind.i64.wrap ((p : Int) + 8) = (p : Int) + 8 := IntWalk.i64_in _ (by omega)
                    have hgt : decide ((b.length : Int) < (p : Int) + 8) = false := by simp; omega
                    have hle : decide ((p : Int) + 8 ≤ (b.length : Int)) = true := by simp; omega
                    refine start_ (n := 31) (S := fun _ => True) (ds := []) #[false, false, false, false, false, false, false, false, false, false, false, false, false, false, false, false, false, false, false, false, false, false, false, false, false, false, false, false, false, false, false] (by kernel_rfl) rfl rfl trivial (fun hHeld => ?_)
                    clear hHeld
                    obtain ⟨wq, hwq⟩ : ∃ wq, wq = w5.drew := ⟨_, rfl⟩
                    rw [← hwq]
                    have HIq : Aside0 (IsRd w0 wq g (b.drop (p + 8)) false) := ⟨by rw [hwq]; exact HI5.out⟩
                    have HBq : Aside0 (Below w0.heap.size w0 wq) := ⟨by rw [hwq]; exact below_drew1 HB5.out⟩
                    clear hwq
                    refine pure_ (i := 0) (N := some 115) (v := ?_) (a' := ?_) #[true, false, false, false, false, false, false, false, false, false, false, false, false, false, false, false, false, false, false, false, false, false, false, false, false, false, false, false, false, false, false] rfl rfl (by kernel_rfl) (fun _ _ _ h => h) (Or.inl ⟨by rfl, ?_⟩) ?_ ?_
                    rotate_left
                    · intro w'
                      go_simp
                      with_reducible rfl
                    rotate_left
                    · simp only [Act.put, List.setIfInBounds_toArray, List.set_cons_zero, List.set_cons_succ, i64_w, i32_w]
                      rfl
                    refine pure_ (i := 1) (N := some 116) (v := ?_) (a' := ?_) #[true, true, false, false, false, false, false, false, false, false, false, false, false, false, false, false, false, false, false, false, false, false, false, false, false, false, false, false, false, false, false] rfl rfl (by kernel_rfl) (fun _ _ _ h => h) (Or.inl ⟨by rfl, ?_⟩) ?_ ?_
                    rotate_left
                    · intro w'
                      go_simp
                      with_reducible rfl
                    rotate_left
                    · simp only [Act.put, List.setIfInBounds_toArray, List.set_cons_zero, List.set_cons_succ, i64_w, i32_w]
                      rfl
                    refine pure_ (i := 2) (N := some 117) (v := ?_) (a' := ?_) #[true, true, true, false, false, false, false, false, false, false, false, false, false, false, false, false, false, false, false, false, false, false, false, false, false, false, false, false, false, false, false] rfl rfl (by kernel_rfl) (fun _ _ _ h => h) (Or.inl ⟨by rfl, ?_⟩) ?_ ?_
                    rotate_left
                    · intro w'
                      go_simp
                      with_reducible rfl
                    rotate_left
                    · simp only [Act.put, List.setIfInBounds_toArray, List.set_cons_zero, List.set_cons_succ, i64_w, i32_w]
                      rfl
                    refine pure_ (i := 3) (N := some 118) (v := ?_) (a' := ?_) #[true, true, true, true, false, false, false, false, false, false, false, false, false, false, false, false, false, false, false, false, false, false, false, false, false, false, false, false, false, false, false] rfl rfl (by kernel_rfl) (fun _ _ _ h => h) (Or.inl ⟨by rfl, ?_⟩) ?_ ?_
                    rotate_left
                    · intro w'
                      go_simp
                      with_reducible rfl
                    rotate_left
                    · simp only [Act.put, List.setIfInBounds_toArray, List.set_cons_zero, List.set_cons_succ, i64_w, i32_w]
                      rfl
                    refine pure_ (i := 4) (N := some 119) (v := ?_) (a' := ?_) #[true, true, true, true, true, false, false, false, false, false, false, false, false, false, false, false, false, false, false, false, false, false, false, false, false, false, false, false, false, false, false] rfl rfl (by kernel_rfl) (fun _ _ _ h => h) (Or.inl ⟨by rfl, ?_⟩) ?_ ?_
                    rotate_left
                    · intro w'
                      go_simp
                      with_reducible rfl
                    rotate_left
                    · simp only [Act.put, List.setIfInBounds_toArray, List.set_cons_zero, List.set_cons_succ, i64_w, i32_w]
                      rfl
                    refine pure_ (i := 5) (N := some 120) (v := ?_) (a' := ?_) #[true, true, true, true, true, true, false, false, false, false, false, false, false, false, false, false, false, false, false, false, false, false, false, false, false, false, false, false, false, false, false] rfl rfl (by kernel_rfl) (fun _ _ _ h => h) (Or.inl ⟨by rfl, ?_⟩) ?_ ?_
                    rotate_left
                    · intro w'
                      go_simp
                      with_reducible rfl
                    rotate_left
                    · simp only [Act.put, List.setIfInBounds_toArray, List.set_cons_zero, List.set_cons_succ, i64_w, i32_w]
                      rfl
                    refine pure_ (i := 6) (N := some 121) (v := ?_) (a' := ?_) #[true, true, true, true, true, true, true, false, false, false, false, false, false, false, false, false, false, false, false, false, false, false, false, false, false, false, false, false, false, false, false] rfl rfl (by kernel_rfl) (fun _ _ _ h => h) (Or.inl ⟨by rfl, ?_⟩) ?_ ?_
                    rotate_left
                    · intro w'
                      go_simp
                      with_reducible rfl
                    rotate_left
                    · simp only [Act.put, List.setIfInBounds_toArray, List.set_cons_zero, List.set_cons_succ, i64_w, i32_w]
                      rfl
                    refine pure_ (i := 7) (N := some 122) (v := ?_) (a' := ?_) #[true, true, true, true, true, true, true, true, false, false, false, false, false, false, false, false, false, false, false, false, false, false, false, false, false, false, false, false, false, false, false] rfl rfl (by kernel_rfl) (fun _ _ _ h => h) (Or.inl ⟨by rfl, ?_⟩) ?_ ?_
                    rotate_left
                    · intro w'
                      go_simp
                      with_reducible rfl
                    rotate_left
                    · simp only [Act.put, List.setIfInBounds_toArray, List.set_cons_zero, List.set_cons_succ, i64_w, i32_w]
                      rfl
                    refine pure_ (i := 8) (N := some 123) (v := ?_) (a' := ?_) #[true, true, true, true, true, true, true, true, true, false, false, false, false, false, false, false, false, false, false, false, false, false, false, false, false, false, false, false, false, false, false] rfl rfl (by kernel_rfl) (fun _ _ _ h => h) (Or.inl ⟨by rfl, ?_⟩) ?_ ?_
                    rotate_left
                    · intro w'
                      go_simp
                      with_reducible rfl
                    rotate_left
                    · simp only [Act.put, List.setIfInBounds_toArray, List.set_cons_zero, List.set_cons_succ, i64_w, i32_w]
                      rfl
                    refine pure_ (i := 9) (N := some 124) (v := ?_) (a' := ?_) #[true, true, true, true, true, true, true, true, true, true, false, false, false, false, false, false, false, false, false, false, false, false, false, false, false, false, false, false, false, false, false] rfl rfl (by kernel_rfl) (fun _ _ _ h => h) (Or.inl ⟨by rfl, ?_⟩) ?_ ?_
                    rotate_left
                    · intro w'
                      go_simp
                      with_reducible rfl
                    rotate_left
                    · simp only [Act.put, List.setIfInBounds_toArray, List.set_cons_zero, List.set_cons_succ, i64_w, i32_w]
                      rfl
                    refine pure_ (i := 12) (N := some 127) (v := ?_) (a' := ?_) #[true, true, true, true, true, true, true, true, true, true, false, false, true, false, false, false, false, false, false, false, false, false, false, false, false, false, false, false, false, false, false] rfl rfl (by kernel_rfl) (fun _ _ _ h => h) (Or.inl ⟨by rfl, ?_⟩) ?_ ?_
                    rotate_left
                    · intro w'
                      go_simp
                      with_reducible rfl
                    rotate_left
                    · simp only [Act.put, List.setIfInBounds_toArray, List.set_cons_zero, List.set_cons_succ, i64_w, i32_w]
                      rfl
                    refine pure_ (i := 13) (N := some 128) (v := ?_) (a' := ?_) #[true, true, true, true, true, true, true, true, true, true, false, false, true, true, false, false, false, false, false, false, false, false, false, false, false, false, false, false, false, false, false] rfl rfl (by kernel_rfl) (fun _ _ _ h => h) (Or.inl ⟨by rfl, ?_⟩) ?_ ?_
                    rotate_left
                    · intro w'
                      go_simp
                      with_reducible rfl
                    rotate_left
                    · simp only [Act.put, List.setIfInBounds_toArray, List.set_cons_zero, List.set_cons_succ, i64_w, i32_w]
                      rfl
                    refine pure_ (i := 14) (N := some 129) (v := ?_) (a' := ?_) #[true, true, true, true, true, true, true, true, true, true, false, false, true, true, true, false, false, false, false, false, false, false, false, false, false, false, false, false, false, false, false] rfl rfl (by kernel_rfl) (fun _ _ _ h => h) (Or.inl ⟨by rfl, ?_⟩) ?_ ?_
                    rotate_left
                    · intro w'
                      go_simp
                      with_reducible rfl
                    rotate_left
                    · simp only [Act.put, List.setIfInBounds_toArray, List.set_cons_zero, List.set_cons_succ, i64_w, i32_w]
                      rfl
                    refine pure_ (i := 15) (N := some 130) (v := ?_) (a' := ?_) #[true, true, true, true, true, true, true, true, true, true, false, false, true, true, true, true, false, false, false, false, false, false, false, false, false, false, false, false, false, false, false] rfl rfl (by kernel_rfl) (fun _ _ _ h => h) (Or.inl ⟨by rfl, ?_⟩) ?_ ?_
                    rotate_left
                    · intro w'
                      go_simp
                      with_reducible rfl
                    rotate_left
                    · simp only [Act.put, List.setIfInBounds_toArray, List.set_cons_zero, List.set_cons_succ, i64_w, i32_w]
                      rfl
                    refine pure_ (i := 16) (N := some 131) (v := ?_) (a' := ?_) #[true, true, true, true, true, true, true, true, true, true, false, false, true, true, true, true, true, false, false, false, false, false, false, false, false, false, false, false, false, false, false] rfl rfl (by kernel_rfl) (fun _ _ _ h => h) (Or.inl ⟨by rfl, ?_⟩) ?_ ?_
                    rotate_left
                    · intro w'
                      go_simp
                      with_reducible rfl
                    rotate_left
                    · simp only [Act.put, List.setIfInBounds_toArray, List.set_cons_zero, List.set_cons_succ, i64_w, i32_w]
                      rfl
                    refine one_ (i := 10) (N := some 125) #[true, true, true, true, true, true, true, true, true, true, true, false, true, true, true, true, true, false, false, false, false, false, false, false, false, false, false, false, false, false, false] rfl rfl (by kernel_rfl) (by decide) (fun K hK => ?_)
                    refine value_ (v := .slice (some ⟨wq.heap.size, 0, none⟩) 1 1) (w1 := wq.alloc (.cells #[.int .i64 n] 3)) (by rfl) rfl (by go_simp) ?_
                    refine hK.out _ _ trivial (fun hHeld => ?_)
                    clear hK K hHeld
                    refine norm_ (a' := ?_) ?_ ?_
                    rotate_left
                    · show Act.put _ (some 125) _ = _
                      simp only [Act.put, List.setIfInBounds_toArray, List.set_cons_zero, List.set_cons_succ, i64_w, i32_w]
                      rfl
                    refine one_ (i := 11) (N := some 126) #[true, true, true, true, true, true, true, true, true, true, true, true, true, true, true, true, true, false, false, false, false, false, false, false, false, false, false, false, false, false, false] rfl rfl (by kernel_rfl) (by decide) (fun K hK => ?_)
                    refine goes_ Try.func11 (by kernel_rfl) rfl #[.slice (some ⟨wq.heap.size, 0, none⟩) 1 1] (by rfl) rfl rfl (by simp only [List.map_toArray, List.map_cons, List.map_nil]; rfl) ?_
                    refine (one_reads n wq).mono ?_
                    rintro e w6 ⟨A6, c6, rfl, hc6, hC6, hb6⟩
                    have HC6 := Aside0.mk hC6
                    have HI6 := Aside0.mk (HIq.out.below hb6)
                    have HB6 := Aside0.mk (below_then HBq.out HBq.out.size hb6)
                    clear hC6 hb6 hc6
                    refine ⟨_, rfl, ?_⟩
                    refine hK.out _ _ trivial (fun hHeld => ?_)
                    clear hK K hHeld
                    refine norm_ (a' := ?_) ?_ ?_
                    rotate_left
                    · show Act.put _ (some 126) _ = _
                      simp only [Act.put, List.setIfInBounds_toArray, List.set_cons_zero, List.set_cons_succ, i64_w, i32_w]
                      rfl
                    refine one_ (i := 17) (N := some 132) #[true, true, true, true, true, true, true, true, true, true, true, true, true, true, true, true, true, true, false, false, false, false, false, false, false, false, false, false, false, false, false] rfl rfl (by kernel_rfl) (by decide) (fun K hK => ?_)
                    refine goes_ Try.func10 (by kernel_rfl) rfl #[.slice A6 8 c6, .slice A' 8 (c1 - p)] (by rfl) rfl rfl (by simp only [List.map_toArray, List.map_cons, List.map_nil]; rfl) ?_
                    refine (same_u8 A6 c6 (be8 n) A' (c1 - p) (be8 n) _ HC6.out (HRM.out _ (Kd.C_below HB.out HB6.out))).mono ?_
                    rintro e w' ⟨rfl, ⟨nd, rfl⟩⟩
                    simp only [decide_true]
                    refine ⟨_, rfl, ?_⟩
                    refine hK.out _ _ trivial (fun hHeld => ?_)
                    clear hK K hHeld
                    refine norm_ (a' := ?_) ?_ ?_
                    rotate_left
                    · show Act.put _ (some 132) _ = _
                      simp only [Act.put, List.setIfInBounds_toArray, List.set_cons_zero, List.set_cons_succ, i64_w, i32_w]
                      rfl
                    refine pure_ (i := 18) (N := some 133) (v := ?_) (a' := ?_) #[true, true, true, true, true, true, true, true, true, true, true, true, true, true, true, true, true, true, true, false, false, false, false, false, false, false, false, false, false, false, false] rfl rfl (by kernel_rfl) (fun _ _ _ h => h) (Or.inl ⟨by rfl, ?_⟩) ?_ ?_
                    rotate_left
                    · intro w'
                      go_simp
                      with_reducible rfl
                    rotate_left
                    · simp only [Act.put, List.setIfInBounds_toArray, List.set_cons_zero, List.set_cons_succ, i64_w, i32_w]
                      rfl
                    refine pure_ (i := 19) (N := some 134) (v := ?_) (a' := ?_) #[true, true, true, true, true, true, true, true, true, true, true, true, true, true, true, true, true, true, true, true, false, false, false, false, false, false, false, false, false, false, false] rfl rfl (by kernel_rfl) (fun _ _ _ h => h) (Or.inl ⟨by rfl, ?_⟩) ?_ ?_
                    rotate_left
                    · intro w'
                      go_simp
                      with_reducible rfl
                    rotate_left
                    · simp only [Act.put, List.setIfInBounds_toArray, List.set_cons_zero, List.set_cons_succ, i64_w, i32_w]
                      rfl
                    refine pure_ (i := 20) (N := some 135) (v := ?_) (a' := ?_) #[true, true, true, true, true, true, true, true, true, true, true, true, true, true, true, true, true, true, true, true, true, false, false, false, false, false, false, false, false, false, false] rfl rfl (by kernel_rfl) (fun _ _ _ h => h) (Or.inl ⟨by rfl, ?_⟩) ?_ ?_
                    rotate_left
                    · intro w'
                      go_simp
                      with_reducible rfl
                    rotate_left
                    · simp only [Act.put, List.setIfInBounds_toArray, List.set_cons_zero, List.set_cons_succ, i64_w, i32_w]
                      rfl
                    refine pure_ (i := 21) (N := some 136) (v := ?_) (a' := ?_) #[true, true, true, true, true, true, true, true, true, true, true, true, true, true, true, true, true, true, true, true, true, true, false, false, false, false, false, false, false, false, false] rfl rfl (by kernel_rfl) (fun _ _ _ h => h) (Or.inl ⟨by rfl, ?_⟩) ?_ ?_
                    rotate_left
                    · intro w'
                      go_simp
                      with_reducible rfl
                    rotate_left
                    · simp only [Act.put, List.setIfInBounds_toArray, List.set_cons_zero, List.set_cons_succ, i64_w, i32_w]
                      rfl
                    refine pure_ (i := 22) (N := some 137) (v := ?_) (a' := ?_) #[true, true, true, true, true, true, true, true, true, true, true, true, true, true, true, true, true, true, true, true, true, true, true, false, false, false, false, false, false, false, false] rfl rfl (by kernel_rfl) (fun _ _ _ h => h) (Or.inl ⟨by rfl, ?_⟩) ?_ ?_
                    rotate_left
                    · intro w'
                      go_simp
                      with_reducible rfl
                    rotate_left
                    · simp only [Act.put, List.setIfInBounds_toArray, List.set_cons_zero, List.set_cons_succ, i64_w, i32_w]
                      rfl
                    refine pure_ (i := 23) (N := some 138) (v := ?_) (a' := ?_) #[true, true, true, true, true, true, true, true, true, true, true, true, true, true, true, true, true, true, true, true, true, true, true, true, false, false, false, false, false, false, false] rfl rfl (by kernel_rfl) (fun _ _ _ h => h) (Or.inl ⟨by rfl, ?_⟩) ?_ ?_
                    rotate_left
                    · intro w'
                      go_simp
                      with_reducible rfl
                    rotate_left
                    · simp only [Act.put, List.setIfInBounds_toArray, List.set_cons_zero, List.set_cons_succ, i64_w, i32_w]
                      rfl
                    refine pure_ (i := 24) (N := some 139) (v := ?_) (a' := ?_) #[true, true, true, true, true, true, true, true, true, true, true, true, true, true, true, true, true, true, true, true, true, true, true, true, true, false, false, false, false, false, false] rfl rfl (by kernel_rfl) (fun _ _ _ h => h) (Or.inl ⟨by rfl, ?_⟩) ?_ ?_
                    rotate_left
                    · intro w'
                      go_simp
                      with_reducible rfl
                    rotate_left
                    · simp only [Act.put, List.setIfInBounds_toArray, List.set_cons_zero, List.set_cons_succ, i64_w, i32_w]
                      rfl
                    refine pure_ (i := 25) (N := some 140) (v := ?_) (a' := ?_) #[true, true, true, true, true, true, true, true, true, true, true, true, true, true, true, true, true, true, true, true, true, true, true, true, true, true, false, false, false, false, false] rfl rfl (by kernel_rfl) (fun _ _ _ h => h) (Or.inl ⟨by rfl, ?_⟩) ?_ ?_
                    rotate_left
                    · intro w'
                      go_simp
                      with_reducible rfl
                    rotate_left
                    · simp only [Act.put, List.setIfInBounds_toArray, List.set_cons_zero, List.set_cons_succ, i64_w, i32_w]
                      rfl
                    refine pure_ (i := 26) (N := some 141) (v := ?_) (a' := ?_) #[true, true, true, true, true, true, true, true, true, true, true, true, true, true, true, true, true, true, true, true, true, true, true, true, true, true, true, false, false, false, false] rfl rfl (by kernel_rfl) (fun _ _ _ h => h) (Or.inl ⟨by rfl, ?_⟩) ?_ ?_
                    rotate_left
                    · intro w'
                      go_simp
                      with_reducible rfl
                    rotate_left
                    · simp only [Act.put, List.setIfInBounds_toArray, List.set_cons_zero, List.set_cons_succ, i64_w, i32_w]
                      rfl
                    refine pure_ (i := 27) (N := some 142) (v := undef) (a' := ?_) #[true, true, true, true, true, true, true, true, true, true, true, true, true, true, true, true, true, true, true, true, true, true, true, true, true, true, true, true, false, false, false] rfl rfl (by kernel_rfl) (fun _ _ _ h => h) (Or.inr ⟨by rfl, rfl⟩) ?_ ?_
                    rotate_left
                    · simp only [Act.put, List.setIfInBounds_toArray, List.set_cons_zero, List.set_cons_succ, i64_w, i32_w]
                      rfl
                    refine pure_ (i := 28) (N := some 143) (v := undef) (a' := ?_) #[true, true, true, true, true, true, true, true, true, true, true, true, true, true, true, true, true, true, true, true, true, true, true, true, true, true, true, true, true, false, false] rfl rfl (by kernel_rfl) (fun _ _ _ h => h) (Or.inr ⟨by rfl, rfl⟩) ?_ ?_
                    rotate_left
                    · simp only [Act.put, List.setIfInBounds_toArray, List.set_cons_zero, List.set_cons_succ, i64_w, i32_w]
                      rfl
                    refine pure_ (i := 29) (N := some 144) (v := ?_) (a' := ?_) #[true, true, true, true, true, true, true, true, true, true, true, true, true, true, true, true, true, true, true, true, true, true, true, true, true, true, true, true, true, true, false] rfl rfl (by kernel_rfl) (fun _ _ _ h => h) (Or.inl ⟨by rfl, ?_⟩) ?_ ?_
                    rotate_left
                    · intro w'
                      go_simp
                      with_reducible rfl
                    rotate_left
                    · simp only [Act.put, List.setIfInBounds_toArray, List.set_cons_zero, List.set_cons_succ, i64_w, i32_w]
                      rfl
                    refine pure_ (i := 30) (N := some 145) (v := ?_) (a' := ?_) #[true, true, true, true, true, true, true, true, true, true, true, true, true, true, true, true, true, true, true, true, true, true, true, true, true, true, true, true, true, true, true] rfl rfl (by kernel_rfl) (fun _ _ _ h => h) (Or.inl ⟨by rfl, ?_⟩) ?_ ?_
                    rotate_left
                    · intro w'
                      go_simp
                      with_reducible rfl
                    rotate_left
                    · simp only [Act.put, List.setIfInBounds_toArray, List.set_cons_zero, List.set_cons_succ, i64_w, i32_w]
                      rfl
                    refine done_ (by kernel_rfl) ?_
                    go_wp2
                    go_meet
                    case rel => exact ⟨rfl, ⟨HI6.out.drewN _⟩, ⟨pw_below_drewN HB6.out _⟩⟩
                  case rest =>
                    obtain ⟨rfl, HI6, HB6⟩ := hcut
                    go_wp2
                    go_meet
                    case rel => exact ⟨8, b.drop (p + 8), false, rfl, by omega, by omega, ⟨fun _ => ⟨rfl, rfl⟩, fun h => by exfalso; apply h; exact ⟨by simp, by omega⟩⟩, HI6, HB6⟩
                · as_aux_lemma =>
                  have hn := number1_end b p (by omega) hp
                  rw [hn] at hnu
                  have HNU := Lib.hid hnu
                  clear hnu hn
                  go_upto_region 27 with ((go_at_call 17; refine HNU.out.mono ?_; rintro e w5 ⟨rfl, hI5, hB5, hK5⟩; have HI5 := Aside0.mk hI5; have HB5 := Aside0.mk hB5; clear hI5 hB5 hK5))
                  have hw8 : IntKind.i64.wrap ((p : Int) + 8) = (p : Int) + 8 := IntWalk.i64_in _ (by omega)
                  have hgt : decide ((b.length : Int) < (p : Int) + 8) = true := by simp; omega
                  have hle : decide ((p : Int) + 8 ≤ (b.length : Int)) = false := by simp; omega
                  have hne0 : ((0 : Int) != 0) = false := rfl
                  go_quiet (fail)
                  go_wp2
                  go_meet
                  case rel => exact ⟨8, b.drop p, true, rfl, by omega, by omega, ⟨fun h => by omega, fun _ => rfl⟩, ⟨HI5.out.drewN _⟩, ⟨pw_below_drewN HB5.out _⟩⟩
            · as_aux_lemma =>
              obtain rfl : m = 2 := by omega
              clear hm0 hm1
              have htx := text_calls g bs bad w0 wo HI.out HB1.out
              cases good with
              | false =>
                obtain ⟨rfl, rfl⟩ := HS.out.2 rfl
                rw [text1_bad] at htx
                have HTX := Lib.hid htx
                clear htx
                go_wp2_with (first | (go_at_call 9; refine HTX.out.mono ?_; rintro e w5 ⟨rfl, hI5, hB5, hK5⟩; have HI5 := Aside0.mk hI5; have HB5 := Aside0.mk hB5; clear hI5 hB5 hK5))
                go_meet
                case rel => exact ⟨1, bs, true, rfl, by omega, by omega, ⟨fun h => by simp at h, fun _ => rfl⟩, HI5, HB5⟩
              | true =>
                obtain ⟨rfl, rfl⟩ := HS.out.1 rfl
                by_cases hpl : p < b.length
                · obtain ⟨bd, rfl, hcb⟩ := bytes_at HB.out p hpl
                  have hxr := HY.out (b.getD p 0) (by rw [List.getD_eq_getElem?_getD, List.getElem?_eq_getElem hpl]; exact List.getElem_mem hpl)
                  obtain ⟨q, hq⟩ := Int.eq_ofNat_of_zero_le hxr.1
                  have hq2 : q < 256 := by omega
                  have htat := text1_at b p q hpl hq
                  have htov := text1_over b p q hpl hq
                  rw [hq] at hcb
                  have HCB := Lib.hid hcb
                  clear hcb hq hxr
                  by_cases hov : p + (1 + q) ≤ b.length
                  · rw [htat hov] at htx
                    obtain ⟨A', hmid, hrm⟩ := mid_u8 (some bd) c1 b (p + 1) (p + (1 + q)) (by omega) hov HC1.out
                    rw [show ((p + 1 : Nat) : Int) = (p : Int) + 1 by omega, show ((p + (1 + q) : Nat) : Int) = (p : Int) + (1 + (q : Int)) by omega] at hmid
                    have HRM := Aside0.mk hrm
                    generalize (b.take (p + (1 + q))).drop (p + 1) = mid at *
                    have HTX := Lib.hid htx
                    clear htx htat htov hrm
                    go_wp2_with (first | (go_at_call 9; refine HTX.out.mono ?_; rintro e w5 ⟨rfl, hI5, hB5, hK5⟩; have hcb5 := (hB5.cell (World.block_lt_of_cell? w0 _ HCB.out)).trans HCB.out; have hcv := Kd.C_string (P := Try.prog) (src := 24) (dst := 9) (c := c1 - (p + 1)) Try.underlying24 Try.underlying5 Try.underlying9 (HRM.out w5 (Kd.C_below HB.out hB5)); have HI5 := Aside0.mk hI5; have HB5 := Aside0.mk hB5; clear hI5 hB5 hK5))
                    go_meet
                    case rel => exact ⟨1 + q, b.drop (p + (1 + q)), false, by go_num, by omega, by omega, ⟨fun _ => ⟨rfl, rfl⟩, fun h => by exfalso; apply h; exact ⟨by simp, by omega⟩⟩, HI5, HB5⟩
                  · rw [htov (by omega)] at htx
                    have HTX := Lib.hid htx
                    clear htx htat htov
                    go_wp2_with (first | (go_at_call 9; refine HTX.out.mono ?_; rintro e w5 ⟨rfl, hI5, hB5, hK5⟩; have hcb5 := (hB5.cell (World.block_lt_of_cell? w0 _ HCB.out)).trans HCB.out; have HI5 := Aside0.mk hI5; have HB5 := Aside0.mk hB5; clear hI5 hB5 hK5))
                    go_meet
                    case rel => exact ⟨1 + q, b.drop (p + 1), true, by go_num, by omega, by omega, ⟨fun h => by omega, fun _ => rfl⟩, HI5, HB5⟩
                · obtain rfl : p = b.length := by omega
                  rw [text1_end] at htx
                  have HTX := Lib.hid htx
                  clear htx
                  go_wp2_with (first | (go_at_call 9; refine HTX.out.mono ?_; rintro e w5 ⟨rfl, hI5, hB5, hK5⟩; have HI5 := Aside0.mk hI5; have HB5 := Aside0.mk hB5; clear hI5 hB5 hK5))
                  go_meet
                  case rel => exact ⟨1, [], true, rfl, by omega, by omega, ⟨fun h => by omega, fun _ => rfl⟩, HI5, HB5⟩
        case rest =>
          clear HI HB1 HS
          obtain ⟨d, bs', bad', rfl, hd1, hd2, HD, HI, HB1⟩ := hcut
          by_cases hg : good = true ∧ p + d ≤ b.length
          · obtain ⟨rfl, rfl⟩ := HD.out.1 hg
            obtain ⟨rfl, hpd⟩ := hg
            by_cases hend : p + d = b.length
            · as_aux_lemma =>
              have he : (b.drop (p + d)).isEmpty = true := by rw [hend]; simp
              have HE := Lib.hid he
              have hend2 : (p : Int) + (d : Int) = (b.length : Int) := by omega
              have hbe : ((p : Int) + (d : Int) == (b.length : Int)) = true := by simpa using hend2
              have hge : ¬ p + d < b.length := by omega
              clear he hend hend2 HD
              go_wp2_with (first | (go_at_call 13; refine (good_calls g (b.drop (p + d)) false w0 wc HI.out).mono ?_; rintro e w' ⟨rfl, rfl⟩) | (go_at_call 14; refine (done_calls g (b.drop (p + d)) false w0 wc HI.out).mono ?_; rintro e w' ⟨rfl, rfl⟩; rw [HE.out]))
              go_roundw
              case rel => exact ⟨k + 1, p + d, true, b.drop (p + d), false, by omega, by go_num, hpd, by go_num, rfl, ⟨⟨fun _ => ⟨rfl, rfl⟩, fun h => by cases h⟩⟩, HI, HB1⟩
              case measure => simp [intOf]; omega
            · as_aux_lemma =>
              have he : (b.drop (p + d)).isEmpty = false := by
                rw [List.isEmpty_eq_false_iff]
                intro h
                have := congrArg List.length h
                simp at this
                omega
              have HE := Lib.hid he
              have hbe : ((p : Int) + (d : Int) == (b.length : Int)) = false := by simp; omega
              have hge : p + d < b.length := by omega
              clear he hend HD
              go_wp2_with (first | (go_at_call 13; refine (good_calls g (b.drop (p + d)) false w0 wc HI.out).mono ?_; rintro e w' ⟨rfl, rfl⟩) | (go_at_call 14; refine (done_calls g (b.drop (p + d)) false w0 wc HI.out).mono ?_; rintro e w' ⟨rfl, rfl⟩; rw [HE.out]))
              go_roundw
              case rel => exact ⟨k + 1, p + d, true, b.drop (p + d), false, by omega, by go_num, hpd, by go_num, rfl, ⟨⟨fun _ => ⟨rfl, rfl⟩, fun h => by cases h⟩⟩, HI, HB1⟩
              case measure => simp [intOf]; omega
          · obtain rfl := HD.out.2 hg
            clear HD
            cases good with
            | false =>
              as_aux_lemma =>
              clear hg
              go_wp2_with (first | (go_at_call 13; refine (good_calls g (bs') true w0 wc HI.out).mono ?_; rintro e w' ⟨rfl, rfl⟩) | (go_at_call 14; refine (done_calls g (bs') true w0 wc HI.out).mono ?_; rintro e w' ⟨rfl, rfl⟩))
              go_roundw
              case rel => exact ⟨k + 1, b.length, false, bs', true, by omega, by go_num, Nat.le_refl _, rfl, rfl, ⟨⟨fun h => by (cases h), fun _ => ⟨rfl, rfl⟩⟩⟩, HI, HB1⟩
              case measure => simp [intOf]; omega
            | true =>
              as_aux_lemma =>
              have hg2 : ¬ p + d ≤ b.length := fun h => hg ⟨rfl, h⟩
              clear hg
              go_wp2_with (first | (go_at_call 13; refine (good_calls g (bs') true w0 wc HI.out).mono ?_; rintro e w' ⟨rfl, rfl⟩) | (go_at_call 14; refine (done_calls g (bs') true w0 wc HI.out).mono ?_; rintro e w' ⟨rfl, rfl⟩))
              go_roundw
              case rel => exact ⟨k + 1, b.length, false, bs', true, by omega, by go_num, Nat.le_refl _, rfl, rfl, ⟨⟨fun h => by (cases h), fun _ => ⟨rfl, rfl⟩⟩⟩, HI, HB1⟩
              case measure => simp [intOf]; omega
      · by_cases hk3 : k < asks.length
        · as_aux_lemma =>
          have hk4 : ¬ k < 12 := fun h => hk12 ⟨hk3, h⟩
          clear hk12
          go_wp2_with (first | (go_at_call 21; refine (intact_u8 A2 c2 b 7 A1 c1 wr (Kd.C_below HF.out HB1.out) HC2.out (Kd.C_below HB.out HB1.out) (by omega)).mono ?_; rintro e w' ⟨rfl, ⟨nd2, rfl⟩⟩) | (go_at_call 3; refine (runs_calls _).mono ?_; rintro e w11 ⟨rfl, hb⟩; have HW11 := Aside0.mk (below_step (pw_below_drewN (below_then HB0.out HB0.out.size HB1.out) _) hb); clear hb))
          go_ret
          exact ⟨rfl, HW11.out⟩
        · clear hk12
          go_wp2_with (first | (go_at_call 21; refine (intact_u8 A2 c2 b 7 A1 c1 wr (Kd.C_below HF.out HB1.out) HC2.out (Kd.C_below HB.out HB1.out) (by omega)).mono ?_; rintro e w' ⟨rfl, ⟨nd2, rfl⟩⟩) | (go_at_call 3; refine (runs_calls _).mono ?_; rintro e w11 ⟨rfl, hb⟩; have HW11 := Aside0.mk (below_step (pw_below_drewN (below_then HB0.out HB0.out.size HB1.out) _) hb); clear hb))
          go_ret
          exact ⟨rfl, HW11.out⟩
theorem cuts_walk (a : Option Addr) (len cap : Nat) (zs : List Int) (a' : Option Addr) (len' cap' : Nat) (zs' : List Int) (w : World)
    (h : (a = none ∧ len = 0 ∧ cap = 0 ∧ zs = []) ∨ ∃ x, a = some x ∧ len ≤ cap ∧ cap ≤ maxLen ∧ zs.length = cap ∧ (∀ i, i < zs.length → w.cell? (x.add i) = some (.int .u8 (zs.getD i 0))) ∧ ∀ n ∈ zs, (Lit.int .u8 n).wf = true) (hy : len * 1 ≤ 140737488351232)
    (h' : (a' = none ∧ len' = 0 ∧ cap' = 0 ∧ zs' = []) ∨ ∃ x, a' = some x ∧ len' ≤ cap' ∧ cap' ≤ maxLen ∧ zs'.length = cap' ∧ (∀ i, i < zs'.length → w.cell? (x.add i) = some (.int .i64 (zs'.getD i 0))) ∧ ∀ n ∈ zs', (Lit.int .i64 n).wf = true) (hy' : len' * 8 ≤ 140737488351232) :
    Calls Try.prog 6 #[.slice a len cap, .slice a' len' cap'] w fun e w' => e = .returned (.bool true) ∧ Below w.heap.size w w' := by
  obtain ⟨l, rfl, hr, hm, hw, hc⟩ := ReadsInt.ofRowC h
  obtain ⟨l', rfl, hr', hm', hw', hc'⟩ := ReadsInt.ofRowC h'
  exact cuts_calls a cap l a' cap' l' w (Kd.C_of_reads (d := (0 : Int)) (h1 := fun _ => rfl) hr) hc (fun n hn => by have := bounds_u8 (hw n hn); omega) (Kd.C_of_reads (d := (0 : Int)) (h1 := fun _ => rfl) hr')
end Go.Proofs.Ytnljhdfmhhmdkaa.Rd

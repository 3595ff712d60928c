/-
  WireOnly returns true.
-/
import Derived.Test.YtbplemhjhpfkgaaDoorMsgPure
import Derived.Test.YtbplemhjhpfkgaaDoorWireDecode
import Derived.Test.YtbplemhjhpfkgaaDoorWireRuns
import Derived.Test.YtbplemhjhpfkgaaDoorWireSame
import Derived.Test.YtbplemhjhpfkgaaDoorRoomD
import Derived.OpenShut
namespace Go.Proofs.YtbplemhjhpfkgaaDoor.Wr
open Go.RowKit Go.Proofs.YtbplemhjhpfkgaaDoorW.PrintWords Go.Proofs.YtbplemhjhpfkgaaDoorW.PrintLast Go.Proofs.YtbplemhjhpfkgaaDoorW.PrintMore Go.Proofs.YtbplemhjhpfkgaaDoor.Rd
open Go.Proofs.YtbplemhjhpfkgaaDoor.Cd (Co At kCo kAt at_Co at_At nilCo nilAt)
open Go.Proofs.YtbplemhjhpfkgaaDoor.Ft (Door Chain new_chain kind_calls place_calls chain_iface)
attribute [local go_sem] max2_int min2_int max_two min_two max_three min_three max_four min_four
set_option linter.unusedVariables false
set_option linter.unusedSimpArgs false
theorem own_eBy (w : World) : Kd.R (Kd.int .u8) 5 (w.alloc (.cells #[] 5)) w.heap.size (fun _ => True) (.slice (some ⟨w.heap.size, 0, none⟩) 0 0) [] :=
  Kd.R_of_own (enc := Value.int .u8) (h1 := fun _ => rfl) (by simpa [encs] using World.ownsRow_lit (base := w.heap.size) (e := 5) (size := 1) w #[] 0 (Nat.le_refl _) (by simp) rfl) (fun _ _ => trivial)
theorem R_some {α : Type} {d : Kd α} {T : TypeId} {w : World} {base n c : Nat} {A : Option Addr} {xs : List α} (h : Kd.R d T w base (fun _ => True) (.slice A n c) xs) (hn : 0 < xs.length) : ∃ g, A = some ⟨g, 0, none⟩ ∧ ∃ cells, w.heap[g]? = some (.cells cells T (0, 0)) := by
  obtain ⟨hl, _, _⟩ := Kd.R_reads' h
  obtain ⟨_, inner, ho, _⟩ := h
  obtain ⟨h1, h2⟩ := ho
  rcases h2 with ⟨e, _⟩ | ⟨b, cap, cur, e, _, hh, _⟩
  · injection e with e1 e2 e3
    omega
  · injection e with e1 e2 e3
    exact ⟨b, e1, cur, hh⟩
theorem byt_set {bs : List Int} (h : Byt bs) (i : Nat) {y : Int} (hy : 0 ≤ y ∧ y < 256) : Byt (bs.set i y) := fun x hx => (List.mem_or_eq_of_mem_set hx).elim (h x) (fun e => by rw [e]; exact hy)
theorem by_cell {w : World} {base g n c j : Nat} {xs : List Int} (h : Kd.R (Kd.int .u8) 5 w base (fun _ => True) (.slice (some ⟨g, 0, none⟩) n c) xs) (hj : j < xs.length) : w.cell? ⟨g, j, none⟩ = some (.int .u8 (xs.getD j 0)) ∧ w.frozen? ⟨g, j, none⟩ = false := by
  obtain ⟨hn, _, hC⟩ := Kd.R_reads' h
  obtain ⟨ad, e, hc⟩ := bytes_at hC j (by omega)
  obtain rfl := Option.some.inj e
  obtain ⟨g', e', cells, hb⟩ := R_some h (by omega)
  obtain rfl : g = g' := by simpa using e'
  rw [add_plain] at hc
  exact ⟨hc, blk_frozen hb _⟩
theorem decM_some {xs : List Int} {o : MsgD} (h : decM xs = some o) : rightM o = true ∧ msgB o = xs ∧ o = (readM (xs, false)).1 := by
  unfold decM at h
  split at h
  · rename_i hc
    obtain rfl := Option.some.inj h
    simp only [Bool.and_eq_true, decide_eq_true_iff] at hc
    exact ⟨hc.1.2, hc.2, rfl⟩
  · cases h
theorem msgB_len (m : MsgD) (h : rightM m = true) : 17 ≤ (msgB m).length ∧ (msgB m).length ≤ 10000 := by
  have hl : m.p.length ≤ 5 ∧ m.s.length ≤ 5 := by
    simp only [rightM, predOk, tupOk, Bool.and_eq_true, decide_eq_true_iff] at h
    omega
  have h1 := iB_le m.k m.ic m.is
  have h2 := pB_le m.k m.p
  have h3 := sB_le m.k m.s
  unfold msgB
  simp only [List.length_append, be8s_len, List.length_cons, List.length_nil]
  omega
set_option maxRecDepth 100000 in
set_option maxHeartbeats 16000000 in
theorem wireOnly_calls (a0 a1 a2 a3 a4 : Int) (A5 : Option Addr) (c5 : Nat) (l5 : List Int) (A6 : Option Addr) (c6 : Nat) (l6 : List Int) (A7 : Option Addr) (c7 : Nat) (l7 : List Int) (A8 : Option Addr) (c8 : Nat) (l8 : List Int) (Ar : Option Addr) (cr : Nat) (raw : List Int) (at_ c how : Int) (w : World) (hg : Door w)
    (h5 : Kd.C (Kd.int .i64) w A5 l5.length l5) (k5 : l5.length ≤ c5) (h6 : Kd.C (Kd.int .i64) w A6 l6.length l6) (k6 : l6.length ≤ c6) (h7 : Kd.C (Kd.int .i64) w A7 l7.length l7) (k7 : l7.length ≤ c7) (h8 : Kd.C (Kd.int .i64) w A8 l8.length l8) (k8 : l8.length ≤ c8)
    (hr : Kd.C (Kd.int .u8) w Ar raw.length raw) (hrb : Byt raw) (hrc : raw.length ≤ cr) (hcb : 0 ≤ c ∧ c < 256) :
    Calls Tryd.prog 12 #[.agg #[.int .i64 a0, .int .i64 a1, .int .i64 a2, .int .i64 a3, .int .i64 a4, .slice A5 l5.length c5, .slice A6 l6.length c6, .slice A7 l7.length c7, .slice A8 l8.length c8], .slice Ar raw.length cr, .int .i64 at_, .int .u8 c, .int .i64 how] w fun e w' => e = .returned (.bool true) ∧ Below w.heap.size w w' := by
  have HG := Aside0.mk hg
  have H5 := Aside0.mk h5
  have H6 := Aside0.mk h6
  have H7 := Aside0.mk h7
  have H8 := Aside0.mk h8
  have K5 := Aside0.mk k5
  have K6 := Aside0.mk k6
  have K7 := Aside0.mk k7
  have K8 := Aside0.mk k8
  have HR := Aside0.mk hr
  have HRB := Lib.hid hrb
  have HCB := Lib.hid hcb
  have HB := Aside0.mk (below_alloc (Below.refl w.heap.size w) (.cells #[.int .i64 a0, .int .i64 a1, .int .i64 a2, .int .i64 a3, .int .i64 a4, .slice A5 l5.length c5, .slice A6 l6.length c6, .slice A7 l7.length c7, .slice A8 l8.length c8] 53))
  clear hg h5 h6 h7 h8 k5 k6 k7 k8 hr hrb hcb
  go_enter Tryd.func12, Tryd.ntmps12
  go_upto_region 2 with (first
    | (replace HL := HL; go_at_call 21; refine (enc_right m D5 m5 D6 m6 _ HL.out HS.out HRm.out).mono ?_; rintro e w2 ⟨v, rfl, hR, hB⟩; obtain ⟨b1, hb1⟩ : ∃ b, msgB m = b := ⟨_, rfl⟩; rw [hb1] at hR; have hl1 := msgB_len m HRm.out; rw [hb1] at hl1; have HB1 : Hid (Byt b1) := Lib.hid (hb1 ▸ byt_msgB m); obtain ⟨A1, c1, rfl, hc1, hC1⟩ := Kd.R_reads hR; have HC1 := Aside0.mk hC1; have HW1 := Aside0.mk (below_step HB.out hB); clear hR hB hC1 hb1)
    | (go_at_call 23; refine (msg_calls a0 a1 a2 a3 a4 A5 c5 l5 A6 c6 l6 A7 c7 l7 A8 c8 l8 _ (Kd.C_below H5.out HB.out) K5.out (Kd.C_below H6.out HB.out) K6.out (Kd.C_below H7.out HB.out) K7.out (Kd.C_below H8.out HB.out) K8.out).mono ?_; rintro e w1 ⟨m, D5, m5, D6, m6, rfl, hL, _, _, hr, hs, _, _, hB⟩; have HL := Aside0.mk hL; have HRm := Lib.hid hr; have HS := Aside0.mk hs; replace HB := Aside0.mk (below_step HB.out hB); clear hL hr hs hB))
  obtain ⟨hl17, hl1m⟩ := hl1
  clear HL HRm HS HB H5 H6 H7 H8 K5 K6 K7 K8
  go_upto_region 4 with fail
  have HO0 := Aside0.mk (Kd.R_lower (own_eBy w2) HW1.out.size)
  have HWe := Aside0.mk (below_alloc HW1.out (.cells #[] 5))
  have HCe := Aside0.mk (Kd.C_below HC1.out (below_alloc (Below.refl w2.heap.size w2) (.cells #[] 5)))
  obtain ⟨ii, hii⟩ : ∃ z, within at_ 0 ((b1.length : Int) - 1) = z := ⟨_, rfl⟩
  have hib := within_bd at_ 0 ((b1.length : Int) - 1) (by omega)
  rw [hii] at hib
  obtain ⟨iN, rfl⟩ : ∃ n : Nat, ii = (n : Int) := ⟨ii.toNat, by omega⟩
  have hi1 : iN < b1.length := by omega
  have hi2 : (iN : Int) < (b1.length : Int) := by omega
  have hi3 : (0 : Int) ≤ (iN : Int) := by omega
  have HII := Lib.hid hii
  clear hib hii
  go_upto_block 0 with (first
    | (go_at_call 24; refine (within_calls at_ 0 ((b1.length : Int) - 1) _ (by omega) (by omega) (by omega)).mono ?_; rintro e w5 ⟨he, rfl⟩; rw [HII.out] at he; subst he)
    | ((with_reducible refine gate_builtin (b := .append) (xs := #[.tmp 32, .tmp 33]) rfl ?_); at_builtin; refine Kd.R_append_row (Value.int .u8) (0 : Int) (h1 := fun _ => rfl) (w0 := w) (w.heap.size) rfl (.tmp 32) (.tmp 33) 22 5 (.int .u8 0) 1 rfl Tryd.underlying22 infoU8 rfl (by decide) (.slice (some ⟨w2.heap.size, 0, none⟩) 0 0) (([] : List Int)) (b1) (A1) (b1.length) (c1) (fun _ => True) rfl rfl (fun _ _ => trivial) ?aO ?aR ?aB ?aS ?aL ?_; (case aO => exact HO0.out); (case aR => exact HCe.out); (case aB => exact HWe.out); (case aS => exact (below_size (by exact HWe.out))); (case aL => (simp; omega)); intro v1 w1 ho hb hg hat; rw [List.nil_append] at ho; obtain ⟨aO, cO, rfl⟩ := Kd.R_slice ho; have HO := Aside0.mk ho; have HW := Aside0.mk hb; clear ho hb hg hat))
  clear HO0 HWe HCe HC1 HW1 hc1
  go_cut [11] (fun v wx => ∃ (A : Option Addr) (cc : Nat) (bs : List Int), v = .slice A bs.length cc ∧ bs.length ≤ cc ∧ bs.length ≤ 20000 ∧ Hid (Byt bs) ∧ Aside0 (Kd.C (Kd.int .u8) wx A bs.length bs) ∧ Aside0 (Below w.heap.size w wx))
  case first =>
    obtain ⟨g, rfl, cl7, hcl⟩ := R_some HO.out (by omega)
    have HGG := Aside0.mk (Kd.R_base HO.out g rfl)
    have hoc := (Kd.R_reads' HO.out).2.1
    have HOC := Aside0.mk (Kd.R_reads' HO.out).2.2
    clear hcl
    by_cases e0 : (bits .and .i64 how 3 == 0) = true
    · have hz := by_cell HO.out hi1
      obtain ⟨bv, hbv⟩ : ∃ y, b1.getD iN 0 = y := ⟨_, rfl⟩
      rw [hbv] at hz
      have z0 := hz.1
      have f0 := hz.2
      have hl0 := World.block_lt_of_cell? _ _ z0
      have hyr := bounds_u8 (wf_bits .xor .u8 bv c)
      have hput := (Kd.R_putg HO.out (iN : Int) (bits .xor .u8 bv c)).1
      have hwp := below_set HW.out HGG.out (j := iN) (v := .int .u8 (bits .xor .u8 bv c))
      rw [Int.toNat_natCast] at hput
      have HPUT := Aside0.mk hput
      have HWP := Aside0.mk hwp
      have HYR := Lib.hid (show 0 ≤ bits .xor .u8 bv c ∧ bits .xor .u8 bv c < 256 by omega)
      clear hput hwp hz hbv hyr
      go_wp2_with fail
      go_meet
      case rel => exact ⟨some ⟨g, 0, none⟩, cO, b1.set iN (bits .xor .u8 bv c), by rw [List.length_set], by rw [List.length_set]; exact hoc, by rw [List.length_set]; omega, Lib.hid (byt_set HB1.out iN HYR.out), ⟨(Kd.R_reads' HPUT.out).2.2⟩, HWP⟩
    · replace e0 : (bits .and .i64 how 3 == 0) = false := by simpa using e0
      by_cases e1 : (bits .and .i64 how 3 == 1) = true
      · go_wp2_with fail
        go_meet
        case rel => exact ⟨some ⟨g, 0, none⟩, cO, b1.take iN, by rw [List.length_take, Nat.min_eq_left (by omega)], by rw [List.length_take]; omega, by rw [List.length_take]; omega, Lib.hid (fun y hy => HB1.out y (List.mem_of_mem_take hy)), ⟨Kd.C_take HOC.out (by omega)⟩, HW⟩
      · replace e1 : (bits .and .i64 how 3 == 1) = false := by simpa using e1
        by_cases e2 : (bits .and .i64 how 3 == 2) = true
        · obtain ⟨k9, hk9⟩ : ∃ k, min raw.length 9 = k := ⟨_, rfl⟩
          have i9 : (if (9 : Int) < (raw.length : Int) then (9 : Int) else (raw.length : Int)) = (k9 : Int) := by rw [← hk9]; split <;> omega
          have h9 : k9 ≤ raw.length := by omega
          have h9b : k9 ≤ 9 := by omega
          clear hk9
          have hlt : (raw.take k9).length = k9 := by rw [List.length_take]; omega
          have hT9 : Kd.C (Kd.int .u8) w Ar (raw.take k9).length (raw.take k9) := Kd.C_take HR.out (by omega)
          have HBt : Hid (Byt (raw.take k9)) := Lib.hid (fun y hy => HRB.out y (List.mem_of_mem_take hy))
          generalize raw.take k9 = r9 at hlt hT9 HBt
          subst hlt
          have HT9 := Aside0.mk (Kd.C_below hT9 HW.out)
          clear hT9
          go_wp2_with ((with_reducible refine gate_builtin (b := .append) (xs := #[.tmp 65, .tmp 70]) rfl ?_); at_builtin; refine Kd.R_append_row (Value.int .u8) (0 : Int) (h1 := fun _ => rfl) (w0 := w) (w.heap.size) rfl (.tmp 65) (.tmp 70) 22 5 (.int .u8 0) 1 rfl Tryd.underlying22 infoU8 rfl (by decide) (.slice (some ⟨g, 0, none⟩) b1.length cO) (b1) (r9) (Ar) (r9.length) (cr) (fun _ => True) rfl rfl (fun _ _ => trivial) ?aO ?aR ?aB ?aS ?aL ?_; (case aO => exact HO.out); (case aR => exact HT9.out); (case aB => exact HW.out); (case aS => exact (below_size (by exact HW.out))); (case aL => (omega)); intro v1 w1 ho hb hg hat; obtain ⟨aQ, cQ, rfl⟩ := Kd.R_slice ho; have HQ := Aside0.mk ho; have HWq := Aside0.mk hb; clear ho hb hg hat)
          go_meet
          case rel => exact ⟨aQ, cQ, b1 ++ r9, by rw [List.length_append], (Kd.R_reads' HQ.out).2.1, by rw [List.length_append]; omega, Lib.hid (byt_app HB1.out HBt.out), ⟨(Kd.R_reads' HQ.out).2.2⟩, HWq⟩
        · replace e2 : (bits .and .i64 how 3 == 2) = false := by simpa using e2
          obtain ⟨k60, hk60⟩ : ∃ k, min raw.length 60 = k := ⟨_, rfl⟩
          have i60 : (if (60 : Int) < (raw.length : Int) then (60 : Int) else (raw.length : Int)) = (k60 : Int) := by rw [← hk60]; split <;> omega
          have h60 : k60 ≤ raw.length := by omega
          have h60b : k60 ≤ 60 := by omega
          clear hk60
          have hlt : (raw.take k60).length = k60 := by rw [List.length_take]; omega
          have hT60 : Kd.C (Kd.int .u8) w Ar (raw.take k60).length (raw.take k60) := Kd.C_take HR.out (by omega)
          have HBt : Hid (Byt (raw.take k60)) := Lib.hid (fun y hy => HRB.out y (List.mem_of_mem_take hy))
          generalize raw.take k60 = r60 at hlt hT60 HBt
          subst hlt
          have HOf := Aside0.mk (Kd.R_lower (own_eBy w1) HW.out.size)
          have HWf := Aside0.mk (below_alloc HW.out (.cells #[] 5))
          have HCf := Aside0.mk (Kd.C_below (Kd.C_below hT60 HW.out) (below_alloc (Below.refl w1.heap.size w1) (.cells #[] 5)))
          clear hT60
          go_wp2_with ((with_reducible refine gate_builtin (b := .append) (xs := #[.tmp 42, .tmp 47]) rfl ?_); at_builtin; refine Kd.R_append_row (Value.int .u8) (0 : Int) (h1 := fun _ => rfl) (w0 := w) (w.heap.size) rfl (.tmp 42) (.tmp 47) 22 5 (.int .u8 0) 1 rfl Tryd.underlying22 infoU8 rfl (by decide) (.slice (some ⟨w1.heap.size, 0, none⟩) 0 0) (([] : List Int)) (r60) (Ar) (r60.length) (cr) (fun _ => True) rfl rfl (fun _ _ => trivial) ?aO ?aR ?aB ?aS ?aL ?_; (case aO => exact HOf.out); (case aR => exact HCf.out); (case aB => exact HWf.out); (case aS => exact (below_size (by exact HWf.out))); (case aL => (simp; omega)); intro v1 w1 ho hb hg hat; rw [List.nil_append] at ho; obtain ⟨aQ, cQ, rfl⟩ := Kd.R_slice ho; have HQ := Aside0.mk ho; have HWq := Aside0.mk hb; clear ho hb hg hat)
          go_meet
          case rel => exact ⟨aQ, cQ, r60, rfl, (Kd.R_reads' HQ.out).2.1, by omega, HBt, ⟨(Kd.R_reads' HQ.out).2.2⟩, HWq⟩
  case rest =>
    obtain ⟨A3, c3, b3, rfl, hc3, hb3, HB3, HC3, HW3⟩ := hcut
    clear HO HW HB1 HR HRB HCB hi1 hi2 hi3 HII hl17 hl1m
    have hb3i : (b3.length : Int) ≤ 20000 := by omega
    go_upto_region 15 with (go_at_call 38; refine (roomy_u8 A3 c3 b3 7 _ HC3.out (by omega)).mono ?_; rintro e w4 ⟨A4, c4, rfl, hc4, hC4, hB⟩; have HC4 := Aside0.mk hC4; replace HC3 := Aside0.mk (Kd.C_below HC3.out hB); have HW4 := Aside0.mk (below_step HW3.out hB); clear hC4 hB)
    have hle4 : b3.length ≤ c4 := by omega
    have HCT := Aside0.mk (show Kd.C (Kd.int .u8) w4 A4 b3.length b3 by
      have h2 : Kd.C (Kd.int .u8) w4 A4 (b3 ++ List.replicate 80 (7 : Int)).length (b3 ++ List.replicate 80 (7 : Int)) := by rw [List.length_append, List.length_replicate]; exact HC4.out
      have h := Kd.C_take h2 (show b3.length ≤ (b3 ++ List.replicate 80 (7 : Int)).length by rw [List.length_append]; omega)
      rw [List.take_left] at h
      exact h)
    cases hd : decM b3 with
    | none =>
      have HD : Hid (∀ W, Kd.C (Kd.int .u8) W A4 b3.length b3 → Calls Tryd.prog 36 #[.slice A4 b3.length c4] W fun e w' => ∃ t z, e = .returned (.tuple #[.agg #[.int .i64 0, .int .i64 0, .int .i64 0, .int .i64 0, .int .i64 0, .slice none 0 0, .slice none 0 0], .iface t z]) ∧ Chain w' [(wireS, (b3.length : Int))] 1 (.iface t z) ∧ Below W.heap.size W w') := Lib.hid (fun W h => by
        refine (decM_calls A4 c4 b3 W h HB3.out (by omega)).mono ?_
        rintro e w' ⟨_, h2, hB⟩
        obtain ⟨u, rfl, hc⟩ := h2 hd
        obtain ⟨t, z, rfl⟩ := chain_iface hc
        exact ⟨t, z, rfl, hc, hB⟩)
      clear hd
      go_upto_region 16 with (go_at_call 36; refine (HD.out _ HCT.out).mono ?_; rintro e w6 ⟨t, z, rfl, hc, hB⟩; have HCh := Aside0.mk (Go.Proofs.YtbplemhjhpfkgaaDoor.Ft.Chain.below (below_alloc (Below.refl w6.heap.size w6) (.cells #[.int .i64 0, .int .i64 0, .int .i64 0, .int .i64 0, .int .i64 0, .slice none 0 0, .slice none 0 0] 50)) hc); have HO6 := Aside0.mk (blk_new w6 (.cells #[.int .i64 0, .int .i64 0, .int .i64 0, .int .i64 0, .int .i64 0, .slice none 0 0, .slice none 0 0] 50)); replace HC3 := Aside0.mk (Kd.C_below (Kd.C_below HC3.out hB) (below_alloc (Below.refl w6.heap.size w6) (.cells #[.int .i64 0, .int .i64 0, .int .i64 0, .int .i64 0, .int .i64 0, .slice none 0 0, .slice none 0 0] 50))); replace HC4 := Aside0.mk (Kd.C_below (Kd.C_below HC4.out hB) (below_alloc (Below.refl w6.heap.size w6) (.cells #[.int .i64 0, .int .i64 0, .int .i64 0, .int .i64 0, .int .i64 0, .slice none 0 0, .slice none 0 0] 50))); have HW6 := Aside0.mk (below_alloc (below_step HW4.out hB) (.cells #[.int .i64 0, .int .i64 0, .int .i64 0, .int .i64 0, .int .i64 0, .slice none 0 0, .slice none 0 0] 50)); clear hc hB)
      generalize (w6.alloc (.cells #[.int .i64 0, .int .i64 0, .int .i64 0, .int .i64 0, .int .i64 0, .slice none 0 0, .slice none 0 0] 50)) = wk at *
      generalize w6.heap.size = bk at *
      have HS0 := Lib.hid (show sameM zeroM zeroM = true by simp [sameM])
      go_upto_region 19 with (go_at_call 39; refine (intact_u8 A4 c4 b3 7 A3 c3 _ HC4.out hc4 HC3.out (by omega)).mono ?_; rintro e w7 ⟨rfl, d7, rfl⟩; replace HCh := Aside0.mk (Go.Proofs.YtbplemhjhpfkgaaDoor.Ft.Chain.below (pw_below_drewN (Below.refl _ _) d7) HCh.out); replace HO6 := Aside0.mk (blk_drewN HO6.out d7); replace HW6 := Aside0.mk (pw_below_drewN HW6.out d7))
      generalize wk.drewN d7 = wl at *
      clear HC3 HC4 HCT HD
      have HGk := Aside0.mk (Go.Proofs.YtbplemhjhpfkgaaDoor.Ft.Door.below HG.out HW6.out)
      go_wp2_with (first
        | (replace HW9 := HW9; go_at_call 5; refine (wireRuns_calls _ (Go.Proofs.YtbplemhjhpfkgaaDoor.Ft.Door.below HG.out HW9.out)).mono ?_; rintro e w9 ⟨rfl, hB⟩; have HWf := Aside0.mk (below_step HW9.out hB); clear hB)
        | (replace HW8 := HW8; go_at_call 37; refine (msgs_calls zeroM none 0 none 0 zeroM none 0 none 0 _ ⟨nilCo _, nilAt _⟩ ⟨nilCo _, nilAt _⟩).mono ?_; rintro e w8 ⟨he, hB⟩; rw [HS0.out] at he; subst he; have HW9 := Aside0.mk (below_step HW8.out hB); clear hB)
        | (replace HW7 := HW7; go_at_call 30; refine (place_calls _ _ _ _ _ (Go.Proofs.YtbplemhjhpfkgaaDoor.Ft.Door.below HG.out HW7.out) HCh.out).mono ?_; rintro e w7 ⟨rfl, hB⟩; have HW8 := Aside0.mk (below_step HW7.out hB); replace HO6 := Aside0.mk (blk_below HO6.out hB); have r0 := (blk_cell HO6.out 0).trans (rfl : _ = some (Value.int .i64 0)); have r1 := (blk_cell HO6.out 1).trans (rfl : _ = some (Value.int .i64 0)); have r2 := (blk_cell HO6.out 2).trans (rfl : _ = some (Value.int .i64 0)); have r3 := (blk_cell HO6.out 3).trans (rfl : _ = some (Value.int .i64 0)); have r4 := (blk_cell HO6.out 4).trans (rfl : _ = some (Value.int .i64 0)); have r5 := (blk_cell HO6.out 5).trans (rfl : _ = some (Value.slice none 0 0)); have r6 := (blk_cell HO6.out 6).trans (rfl : _ = some (Value.slice none 0 0)); have hlr := blk_lt HO6.out; clear hB)
        | (go_at_call 15; refine (kind_calls _ _ _ _ HGk.out HCh.out).mono ?_; rintro e w7 ⟨rfl, hB⟩; have HW7 := Aside0.mk (below_step HW6.out hB); replace HCh := Aside0.mk (Go.Proofs.YtbplemhjhpfkgaaDoor.Ft.Chain.below hB HCh.out); replace HO6 := Aside0.mk (blk_below HO6.out hB); clear hB))
      go_ret
      exact ⟨rfl, HWf.out⟩
    | some o =>
      obtain ⟨hRo, hE, hro⟩ := decM_some hd
      have HSo : Hid (SmM o) := Lib.hid (by rw [hro]; exact readM_sm b3 HB3.out)
      have HD : Hid (∀ W, Kd.C (Kd.int .u8) W A4 b3.length b3 → Calls Tryd.prog 36 #[.slice A4 b3.length c4] W fun e w' => ∃ B5 n5 B6 n6, e = .returned (.tuple #[.agg #[.int .i64 o.k, .int .i64 o.tc, .int .i64 o.ts, .int .i64 o.ic, .int .i64 o.is, .slice B5 o.p.length n5, .slice B6 o.s.length n6], .nilIface]) ∧ LiesM w' o B5 B6 ∧ Below W.heap.size W w') := Lib.hid (fun W h => by
        refine (decM_calls A4 c4 b3 W h HB3.out (by omega)).mono ?_
        rintro e w' ⟨h1, _, hB⟩
        obtain ⟨B5, n5, B6, n6, rfl, hL, _⟩ := h1 o hd
        exact ⟨B5, n5, B6, n6, rfl, hL, hB⟩)
      have HRo := Lib.hid hRo
      have HEo := Lib.hid hE
      clear hd hRo hE hro
      go_upto_region 16 with (go_at_call 36; refine (HD.out _ HCT.out).mono ?_; rintro e w6 ⟨B5, n5, B6, n6, rfl, hL, hB⟩; have HL6 := Aside0.mk (LiesM.below hL (below_alloc (Below.refl w6.heap.size w6) (.cells #[.int .i64 o.k, .int .i64 o.tc, .int .i64 o.ts, .int .i64 o.ic, .int .i64 o.is, .slice B5 o.p.length n5, .slice B6 o.s.length n6] 50))); have HO6 := Aside0.mk (blk_new w6 (.cells #[.int .i64 o.k, .int .i64 o.tc, .int .i64 o.ts, .int .i64 o.ic, .int .i64 o.is, .slice B5 o.p.length n5, .slice B6 o.s.length n6] 50)); replace HC3 := Aside0.mk (Kd.C_below (Kd.C_below HC3.out hB) (below_alloc (Below.refl w6.heap.size w6) (.cells #[.int .i64 o.k, .int .i64 o.tc, .int .i64 o.ts, .int .i64 o.ic, .int .i64 o.is, .slice B5 o.p.length n5, .slice B6 o.s.length n6] 50))); replace HC4 := Aside0.mk (Kd.C_below (Kd.C_below HC4.out hB) (below_alloc (Below.refl w6.heap.size w6) (.cells #[.int .i64 o.k, .int .i64 o.tc, .int .i64 o.ts, .int .i64 o.ic, .int .i64 o.is, .slice B5 o.p.length n5, .slice B6 o.s.length n6] 50))); have HW6 := Aside0.mk (below_alloc (below_step HW4.out hB) (.cells #[.int .i64 o.k, .int .i64 o.tc, .int .i64 o.ts, .int .i64 o.ic, .int .i64 o.is, .slice B5 o.p.length n5, .slice B6 o.s.length n6] 50)); clear hL hB)
      generalize (w6.alloc (.cells #[.int .i64 o.k, .int .i64 o.tc, .int .i64 o.ts, .int .i64 o.ic, .int .i64 o.is, .slice B5 o.p.length n5, .slice B6 o.s.length n6] 50)) = wk at *
      generalize w6.heap.size = bk at *
      go_upto_region 20 with (go_at_call 39; refine (intact_u8 A4 c4 b3 7 A3 c3 _ HC4.out hc4 HC3.out (by omega)).mono ?_; rintro e w7 ⟨rfl, d7, rfl⟩; replace HL6 := Aside0.mk (LiesM.below HL6.out (pw_below_drewN (Below.refl _ _) d7)); replace HO6 := Aside0.mk (blk_drewN HO6.out d7); replace HC3 := Aside0.mk (Kd.C_below HC3.out (pw_below_drewN (Below.refl _ _) d7)); replace HW6 := Aside0.mk (pw_below_drewN HW6.out d7))
      generalize wk.drewN d7 = wl at *
      clear HC4 HCT HD
      have q0 := (blk_cell HO6.out 0).trans (rfl : _ = some (Value.int .i64 o.k))
      have q1 := (blk_cell HO6.out 1).trans (rfl : _ = some (Value.int .i64 o.tc))
      have q2 := (blk_cell HO6.out 2).trans (rfl : _ = some (Value.int .i64 o.ts))
      have q3 := (blk_cell HO6.out 3).trans (rfl : _ = some (Value.int .i64 o.ic))
      have q4 := (blk_cell HO6.out 4).trans (rfl : _ = some (Value.int .i64 o.is))
      have q5 := (blk_cell HO6.out 5).trans (rfl : _ = some (Value.slice B5 o.p.length n5))
      have q6 := (blk_cell HO6.out 6).trans (rfl : _ = some (Value.slice B6 o.s.length n6))
      have hlq := blk_lt HO6.out
      go_upto_region 21 with (go_at_call 21; refine (enc_right o B5 n5 B6 n6 _ HL6.out HSo.out HRo.out).mono ?_; rintro e w7 ⟨vb, rfl, hR, hB⟩; rw [HEo.out] at hR; obtain ⟨Av, cv, rfl, hcv, hCv⟩ := Kd.R_reads hR; have HCV := Aside0.mk hCv; replace HC3 := Aside0.mk (Kd.C_below HC3.out hB); replace HO6 := Aside0.mk (blk_below HO6.out hB); replace HL6 := Aside0.mk (LiesM.below HL6.out hB); have HW7 := Aside0.mk (below_step HW6.out hB); clear hR hB hCv)
      clear q0 q1 q2 q3 q4 q5 q6 hlq
      go_wp2_with (first
        | (replace HW9 := HW9; go_at_call 5; refine (wireRuns_calls _ (Go.Proofs.YtbplemhjhpfkgaaDoor.Ft.Door.below HG.out HW9.out)).mono ?_; rintro e w9 ⟨rfl, hB⟩; have HWf := Aside0.mk (below_step HW9.out hB); clear hB)
        | (replace HW8 := HW8; go_at_call 25; refine (right_calls o B5 n5 B6 n6 _ HL6.out HSo.out).mono ?_; rintro e w8 ⟨he, hB⟩; rw [HRo.out] at he; subst he; have HW9 := Aside0.mk (below_step HW8.out hB); clear hB)
        | (go_at_call 22; refine (same_u8 Av cv b3 A3 c3 b3 _ HCV.out HC3.out).mono ?_; rintro e w8 ⟨he, hD0⟩; rw [decide_eq_true (rfl : b3 = b3)] at he; subst he; obtain ⟨mD, rfl⟩ := hD0; have HW8 := Aside0.mk (pw_below_drewN HW7.out mD); replace HO6 := Aside0.mk (blk_drewN HO6.out mD); replace HL6 := Aside0.mk (LiesM.below HL6.out (pw_below_drewN (Below.refl _ _) mD)); have r0 := (blk_cell HO6.out 0).trans (rfl : _ = some (Value.int .i64 o.k)); have r1 := (blk_cell HO6.out 1).trans (rfl : _ = some (Value.int .i64 o.tc)); have r2 := (blk_cell HO6.out 2).trans (rfl : _ = some (Value.int .i64 o.ts)); have r3 := (blk_cell HO6.out 3).trans (rfl : _ = some (Value.int .i64 o.ic)); have r4 := (blk_cell HO6.out 4).trans (rfl : _ = some (Value.int .i64 o.is)); have r5 := (blk_cell HO6.out 5).trans (rfl : _ = some (Value.slice B5 o.p.length n5)); have r6 := (blk_cell HO6.out 6).trans (rfl : _ = some (Value.slice B6 o.s.length n6)); have hlr := blk_lt HO6.out))
      go_ret
      exact ⟨rfl, HWf.out⟩
end Go.Proofs.YtbplemhjhpfkgaaDoor.Wr

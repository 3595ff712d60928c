/-
  CodeOnly returns true.
-/
import Derived.Test.YtbplemhjhpfkgaaDoorTame
import Derived.Test.YtbplemhjhpfkgaaDoorBookSame
import Derived.Test.YtbplemhjhpfkgaaDoorCodeRuns
import Derived.Test.YtbplemhjhpfkgaaDoorOpenOp
namespace Go.Proofs.YtbplemhjhpfkgaaDoor.Cd
open Go.RowKit Go.Proofs.YtbplemhjhpfkgaaDoorW.PrintWords Go.Proofs.YtbplemhjhpfkgaaDoorW.PrintLast Go.Proofs.YtbplemhjhpfkgaaDoorW.PrintMore Go.Proofs.YtbplemhjhpfkgaaDoor.Rd
open Go.Proofs.YtbplemhjhpfkgaaDoor.Ft (Door Chain new_chain kind_calls place_calls chain_iface)
attribute [local go_sem] max2_int min2_int max_two min_two max_three min_three max_four min_four
set_option linter.unusedVariables false
set_option linter.unusedSimpArgs false
theorem decD_some {xs : List Int} {o : OpD} (h : decD xs = some o) : rightD o = true ∧ oBy o = xs ∧ Byt o.r := by
  unfold decD at h
  split at h
  · rename_i hc
    obtain rfl := Option.some.inj h
    simp only [Bool.and_eq_true, decide_eq_true_iff] at hc
    exact ⟨hc.1.2, hc.2, readD_byt _⟩
  · cases h
theorem byt_tame {o : OpD} (h : Byt o.r) : Byt (tameD o).r := fun x hx => h x (List.mem_of_mem_take hx)
theorem byt_set {bs : List Int} (h : Byt bs) (i : Nat) {y : Int} (hy : 0 ≤ y ∧ y < 256) : Byt (bs.set i y) := fun x hx => (List.mem_or_eq_of_mem_set hx).elim (h x) (fun e => by rw [e]; exact hy)
theorem by_cell {w : World} {base g n c j : Nat} {xs : List Int} (h : Kd.R (Kd.int .u8) 5 w base (fun _ => True) (.slice (some ⟨g, 0, none⟩) n c) xs) (hj : j < xs.length) : w.cell? ⟨g, j, none⟩ = some (.int .u8 (xs.getD j 0)) ∧ w.frozen? ⟨g, j, none⟩ = false := by
  obtain ⟨hn, _, hC⟩ := Kd.R_reads' h
  obtain ⟨ad, e, hc⟩ := bytes_at hC j (by omega)
  obtain rfl := Option.some.inj e
  obtain ⟨g', e', cells, hb⟩ := R_some h (by omega)
  obtain rfl : g = g' := by simpa using e'
  rw [add_plain] at hc
  exact ⟨hc, blk_frozen hb _⟩
set_option maxRecDepth 100000 in
set_option maxHeartbeats 16000000 in
theorem codeOnly_calls (x : OpX) (Ar : Option Addr) (cr : Nat) (raw : List Int) (at_ c how : Int) (w : World) (hg : Door w) (hx : OpIn w x) (hr : Kd.C (Kd.int .u8) w Ar raw.length raw) (hrb : Byt raw) (hrc : raw.length ≤ cr) (hcb : 0 ≤ c ∧ c < 256) :
    Calls Tryd.prog 8 #[oX x, .slice Ar raw.length cr, .int .i64 at_, .int .u8 c, .int .i64 how] w fun e w' => e = .returned (.bool true) ∧ Below w.heap.size w w' := by
  obtain ⟨⟨zk, zc, zq, zh, za, zt, zp, zs, zr⟩, ⟨A6, m6⟩, ⟨A7, m7⟩, ⟨A8, m8⟩⟩ := x
  obtain ⟨hl, hby, hwf, _, _, ⟨l6, l7, l8⟩, _⟩ := hx
  obtain ⟨oT, hT⟩ : ∃ t, tameD (⟨zk, zc, zq, zh, za, zt, zp, zs, zr⟩ : OpD) = t := ⟨_, rfl⟩
  obtain ⟨oA, hA⟩ : ∃ t, askd oT = t := ⟨_, rfl⟩
  have hbT : Byt oT.r := hT ▸ byt_tame hby
  have HBA : Hid (Byt oA.r) := Lib.hid (hA ▸ byt_askd hbT)
  have HTm : Hid (∀ W, Lies W (⟨zk, zc, zq, zh, za, zt, zp, zs, zr⟩ : OpD) A6 A7 A8 → Calls Tryd.prog 28 #[oW (⟨zk, zc, zq, zh, za, zt, zp, zs, zr⟩ : OpD) A6 m6 A7 m7 A8 m8] W fun e w' => ∃ B6 n6 B7 n7 B8 n8, e = .returned (oW oT B6 n6 B7 n7 B8 n8) ∧ Lies w' oT B6 B7 B8 ∧ Below W.heap.size W w') := Lib.hid (fun W h => by have := tame_calls (⟨zk, zc, zq, zh, za, zt, zp, zs, zr⟩ : OpD) A6 m6 A7 m7 A8 m8 W h l6 l7 l8; rw [hT] at this; exact this)
  have HAs : Hid (∀ W B6 n6 B7 n7 B8 n8, Lies W oT B6 B7 B8 → Calls Tryd.prog 18 #[oW oT B6 n6 B7 n7 B8 n8] W fun e w' => ∃ D6 k6 D7 k7 D8 k8, e = .returned (oW oA D6 k6 D7 k7 D8 k8) ∧ Lies w' oA D6 D7 D8 ∧ Below W.heap.size W w') := Lib.hid (fun W B6 n6 B7 n7 B8 n8 h => by have := asked_any oT B6 n6 B7 n7 B8 n8 W h; rw [hA] at this; exact this)
  have HEn : Hid (∀ W D6 k6 D7 k7 D8 k8, Lies W oA D6 D7 D8 → Calls Tryd.prog 14 #[oW oA D6 k6 D7 k7 D8 k8] W fun e w' => ∃ A cc bs v, e = .returned (.tuple #[.slice A bs.length cc, v]) ∧ (v = .nilIface ∨ ∃ t z, v = .iface t z) ∧ bs.length ≤ cc ∧ bs.length ≤ 300000 ∧ Byt bs ∧ Kd.C (Kd.int .u8) w' A bs.length bs ∧ Below W.heap.size W w') := Lib.hid (fun W D6 k6 D7 k7 D8 k8 h => by
    cases hrt : rightD oA with
    | true =>
      refine (enc_right oA D6 k6 D7 k7 D8 k8 W h HBA.out hrt).mono ?_
      rintro e w' ⟨v, rfl, hR, hB⟩
      obtain ⟨Av, cv, rfl, hcv, hCv⟩ := Kd.R_reads hR
      exact ⟨Av, cv, _, .nilIface, rfl, .inl rfl, hcv, oBy_le hrt, byt_opB _ _ _ _ _ _ _ _ _, hCv, hB⟩
    | false =>
      refine (enc_wrong oA D6 k6 D7 k7 D8 k8 W h HBA.out hrt).mono ?_
      rintro e w' ⟨u, rfl, hc, hB⟩
      obtain ⟨t, z, rfl⟩ := chain_iface hc
      exact ⟨none, 0, [], _, rfl, .inr ⟨t, z, rfl⟩, by simp, by simp, (fun x hx => by cases hx), nilR _, hB⟩)
  have HL := Aside0.mk hl
  have HR := Aside0.mk hr
  have HRB := Lib.hid hrb
  have HCB := Lib.hid hcb
  have HG := Aside0.mk hg
  have HX := Aside0.mk (blk_new w (.cells #[.int .i64 zk, .int .i64 zc, .int .i64 zq, .int .i64 zh, .int .i64 za, .int .i64 zt, .slice A6 zp.length m6, .slice A7 zs.length m7, .slice A8 zr.length m8] 30))
  have HW := Aside0.mk (below_alloc (Below.refl w.heap.size w) (.cells #[.int .i64 zk, .int .i64 zc, .int .i64 zq, .int .i64 zh, .int .i64 za, .int .i64 zt, .slice A6 zp.length m6, .slice A7 zs.length m7, .slice A8 zr.length m8] 30))
  clear hl hby hwf l6 l7 l8 hbT hT hA hr hrb hcb hg
  go_enter Tryd.func8, Tryd.ntmps8
  go_upto_region 1 with fail
  generalize (w.alloc (.cells #[.int .i64 zk, .int .i64 zc, .int .i64 zq, .int .i64 zh, .int .i64 za, .int .i64 zt, .slice A6 zp.length m6, .slice A7 zs.length m7, .slice A8 zr.length m8] 30)) = wa at *
  go_cut [11, 12] from 18 to 24 (fun v u wx => (∃ (A : Option Addr) (cc : Nat) (bs : List Int), v = .slice A bs.length cc ∧ bs.length ≤ cc ∧ bs.length ≤ 300000 ∧ Hid (Byt bs) ∧ Aside0 (Kd.C (Kd.int .u8) wx A bs.length bs) ∧ Aside0 (Below w.heap.size w wx)) ∧ (u = .nilIface ∨ ∃ t z, u = .iface t z))
  case first =>
    have q0 := (blk_cell HX.out 0).trans (rfl : _ = some (Value.int .i64 zk))
    have q1 := (blk_cell HX.out 1).trans (rfl : _ = some (Value.int .i64 zc))
    have q2 := (blk_cell HX.out 2).trans (rfl : _ = some (Value.int .i64 zq))
    have q3 := (blk_cell HX.out 3).trans (rfl : _ = some (Value.int .i64 zh))
    have q4 := (blk_cell HX.out 4).trans (rfl : _ = some (Value.int .i64 za))
    have q5 := (blk_cell HX.out 5).trans (rfl : _ = some (Value.int .i64 zt))
    have q6 := (blk_cell HX.out 6).trans (rfl : _ = some (Value.slice A6 zp.length m6))
    have q7 := (blk_cell HX.out 7).trans (rfl : _ = some (Value.slice A7 zs.length m7))
    have q8 := (blk_cell HX.out 8).trans (rfl : _ = some (Value.slice A8 zr.length m8))
    have hlx := blk_lt HX.out
    go_wp2_with (first
      | (replace HA2 := HA2; go_at_call 14; refine (HEn.out _ _ _ _ _ _ _ HA2.out).mono ?_; rintro e w3 ⟨Ae, ce, be, ve, rfl, hve, hce, hbe, hby, hCe, hB⟩; have HVE := Lib.hid hve; have HCE := Aside0.mk hCe; have HBE := Lib.hid hby; replace HW := Aside0.mk (below_step HW.out hB); clear hve hCe hby hB)
      | (replace HT2 := HT2; go_at_call 18; refine (HAs.out _ _ _ _ _ _ _ HT2.out).mono ?_; rintro e w2 ⟨D6, k6, D7, k7, D8, k8, rfl, hL, hB⟩; have HA2 := Aside0.mk hL; replace HW := Aside0.mk (below_step HW.out hB); clear hL hB)
      | (go_at_call 28; refine (HTm.out _ (Lies.below HL.out HW.out)).mono ?_; rintro e w1 ⟨B6, n6, B7, n7, B8, n8, rfl, hL, hB⟩; have HT2 := Aside0.mk hL; replace HW := Aside0.mk (below_step HW.out hB); clear hL hB))
    go_meet
    case rel => exact ⟨⟨Ae, ce, be, rfl, hce, hbe, HBE, HCE, HW⟩, HVE.out⟩
  case rest =>
    obtain ⟨⟨A1, c1, b1, rfl, hc1, hb1, HB1, HC1, HW1⟩, hu⟩ := hcut
    clear HX HW HTm HAs HEn HBA HL
    obtain ⟨k60, hk60⟩ : ∃ k, min raw.length 60 = k := ⟨_, rfl⟩
    have i60 : (if (60 : Int) < (raw.length : Int) then (60 : Int) else (raw.length : Int)) = (k60 : Int) := by rw [← hk60]; split <;> omega
    have h60 : k60 ≤ raw.length := by omega
    have h60b : k60 ≤ 60 := by omega
    clear hk60
    go_upto_region 2 with fail
    go_cut [31] from 12 to 31 (fun v wx => (∃ bd : Bool, v = .bool bd) ∧ Aside0 (Kd.C (Kd.int .u8) wx A1 b1.length b1) ∧ Aside0 (Below w.heap.size w wx))
    case first =>
      rcases hu with rfl | ⟨t, z, rfl⟩
      · by_cases hb7 : (bits .and .i64 how 7 == 7) = true
        · go_wp2
          go_meet
          case rel => exact ⟨⟨_, rfl⟩, HC1, HW1⟩
        · replace hb7 : (bits .and .i64 how 7 == 7) = false := by simpa using hb7
          go_wp2
          go_meet
          case rel => exact ⟨⟨_, rfl⟩, HC1, HW1⟩
      · go_wp2
        go_meet
        case rel => exact ⟨⟨_, rfl⟩, HC1, HW1⟩
    case rest =>
      obtain ⟨⟨bd, rfl⟩, HC, HW⟩ := hcut
      clear hu HC1 HW1
      go_upto_if 31 with fail
      go_cut [11] from 32 to 36 (fun v wx => ∃ (A : Option Addr) (cc : Nat) (bs : List Int), v = .slice A bs.length cc ∧ bs.length ≤ cc ∧ bs.length ≤ 300000 ∧ Hid (Byt bs) ∧ Aside0 (Kd.C (Kd.int .u8) wx A bs.length bs) ∧ Aside0 (Below w.heap.size w wx))
      case first =>
        cases bd with
        | false =>
          go_wp2_with fail
          go_meet
          case rel => exact ⟨A1, c1, b1, rfl, hc1, hb1, HB1, HC, HW⟩
        | true =>
          have hlt : (raw.take k60).length = k60 := by rw [List.length_take]; omega
          have HT60 := Aside0.mk (show Kd.C (Kd.int .u8) w Ar (raw.take k60).length (raw.take k60) from Kd.C_take HR.out (by omega))
          go_wp2_with fail
          go_meet
          case rel => exact ⟨Ar, cr, raw.take k60, by rw [hlt], by omega, by omega, Lib.hid (fun y hy => HRB.out y (List.mem_of_mem_take hy)), ⟨Kd.C_below HT60.out HW.out⟩, HW⟩
      case rest =>
        obtain ⟨A2, c2, b2, rfl, hc2, hb2, HB2, HC2, HW2⟩ := hcut
        clear HC HW HB1 hc1 hb1 i60 h60 h60b
        go_upto_region 4 with fail
        have HO0 := Aside0.mk (Kd.R_lower (own_eBy wc) HW2.out.size)
        have HWe := Aside0.mk (below_alloc HW2.out (.cells #[] 5))
        have HCe := Aside0.mk (Kd.C_below HC2.out (below_alloc (Below.refl wc.heap.size wc) (.cells #[] 5)))
        go_upto_if 42 with ((with_reducible refine gate_builtin (b := .append) (xs := #[.tmp 37, .tmp 38]) rfl ?_); at_builtin; refine Kd.R_append_row (Value.int .u8) (0 : Int) (h1 := fun _ => rfl) (w0 := w) (w.heap.size) rfl (.tmp 37) (.tmp 38) 22 5 (.int .u8 0) 1 rfl Tryd.underlying22 infoU8 rfl (by decide) (.slice (some ⟨wc.heap.size, 0, none⟩) 0 0) (([] : List Int)) (b2) (A2) (b2.length) (c2) (fun _ => True) rfl rfl (fun _ _ => trivial) ?aO ?aR ?aB ?aS ?aL ?_; (case aO => exact HO0.out); (case aR => exact HCe.out); (case aB => exact HWe.out); (case aS => exact (below_size (by exact HWe.out))); (case aL => (simp; omega)); intro v1 w1 ho hb hg hat; rw [List.nil_append] at ho; obtain ⟨aO, cO, rfl⟩ := Kd.R_slice ho; have HO := Aside0.mk ho; have HW := Aside0.mk hb; clear ho hb hg hat)
        clear HO0 HWe HCe HC2 HW2 hc2
        go_cut [11] from 13 to 72 (fun v wx => ∃ (A : Option Addr) (cc : Nat) (bs : List Int), v = .slice A bs.length cc ∧ bs.length ≤ cc ∧ bs.length ≤ 300100 ∧ Hid (Byt bs) ∧ Aside0 (Kd.C (Kd.int .u8) wx A bs.length bs) ∧ Aside0 (Below w.heap.size w wx))
        case first =>
          by_cases h0 : 0 < b2.length
          · have hd : decide (0 < b2.length) = true := decide_eq_true h0
            obtain ⟨ii, hii⟩ : ∃ z, within at_ 0 ((b2.length : Int) - 1) = z := ⟨_, rfl⟩
            have hib := within_bd at_ 0 ((b2.length : Int) - 1) (by omega)
            rw [hii] at hib
            obtain ⟨iN, rfl⟩ : ∃ n : Nat, ii = (n : Int) := ⟨ii.toNat, by omega⟩
            have hi1 : iN < b2.length := by omega
            have hi2 : (iN : Int) < (b2.length : Int) := by omega
            have hi3 : (0 : Int) ≤ (iN : Int) := by omega
            obtain ⟨g, rfl, cl7, hcl⟩ := R_some HO.out h0
            have HGG := Aside0.mk (Kd.R_base HO.out g rfl)
            have hoc := (Kd.R_reads' HO.out).2.1
            have HOC := Aside0.mk (Kd.R_reads' HO.out).2.2
            have HII := Lib.hid hii
            have hb3 : b2.length ≤ 300000 := hb2
            clear hcl hib hii
            go_upto_region 7 with (go_at_call 24; refine (within_calls at_ 0 ((b2.length : Int) - 1) _ (by omega) (by omega) (by omega)).mono ?_; rintro e w5 ⟨he, rfl⟩; rw [HII.out] at he; subst he)
            by_cases e0 : (bits .and .i64 how 3 == 0) = true
            · have hz := by_cell HO.out hi1
              obtain ⟨bv, hbv⟩ : ∃ y, b2.getD iN 0 = y := ⟨_, rfl⟩
              rw [hbv] at hz
              have z0 := hz.1
              have f0 := hz.2
              have hl0 := World.block_lt_of_cell? _ _ z0
              have hyr := bounds_u8 (wf_bits .xor .u8 bv c)
              have hput := (Kd.R_putg HO.out (iN : Int) (bits .xor .u8 bv c)).1
              have hwp := below_set HW.out HGG.out (j := iN) (v := .int .u8 (bits .xor .u8 bv c))
              rw [Int.toNat_natCast] at hput
              have HPUT := Aside0.mk hput
              have HWP := Aside0.mk hwp
              have HYR := Lib.hid (show 0 ≤ bits .xor .u8 bv c ∧ bits .xor .u8 bv c < 256 by omega)
              clear hput hwp hz hbv hyr
              go_wp2_with fail
              go_meet
              case rel => exact ⟨some ⟨g, 0, none⟩, cO, b2.set iN (bits .xor .u8 bv c), by rw [List.length_set], by rw [List.length_set]; exact hoc, by rw [List.length_set]; omega, Lib.hid (byt_set HB2.out iN HYR.out), ⟨(Kd.R_reads' HPUT.out).2.2⟩, HWP⟩
            · replace e0 : (bits .and .i64 how 3 == 0) = false := by simpa using e0
              by_cases e1 : (bits .and .i64 how 3 == 1) = true
              · go_wp2_with fail
                go_meet
                case rel => exact ⟨some ⟨g, 0, none⟩, cO, b2.take iN, by rw [List.length_take, Nat.min_eq_left (by omega)], by rw [List.length_take]; omega, by rw [List.length_take]; omega, Lib.hid (fun y hy => HB2.out y (List.mem_of_mem_take hy)), ⟨Kd.C_take HOC.out (by omega)⟩, HW⟩
              · replace e1 : (bits .and .i64 how 3 == 1) = false := by simpa using e1
                by_cases e2 : (bits .and .i64 how 3 == 2) = true
                · obtain ⟨k9, hk9⟩ : ∃ k, min raw.length 9 = k := ⟨_, rfl⟩
                  have i9 : (if (9 : Int) < (raw.length : Int) then (9 : Int) else (raw.length : Int)) = (k9 : Int) := by rw [← hk9]; split <;> omega
                  have h9 : k9 ≤ raw.length := by omega
                  have h9b : k9 ≤ 9 := by omega
                  clear hk9
                  have hlt : (raw.take k9).length = k9 := by rw [List.length_take]; omega
                  have hT9 : Kd.C (Kd.int .u8) w Ar (raw.take k9).length (raw.take k9) := Kd.C_take HR.out (by omega)
                  have HBt : Hid (Byt (raw.take k9)) := Lib.hid (fun y hy => HRB.out y (List.mem_of_mem_take hy))
                  generalize raw.take k9 = r9 at hlt hT9 HBt
                  subst hlt
                  have HT9 := Aside0.mk (Kd.C_below hT9 HW.out)
                  clear hT9
                  go_wp2_with ((with_reducible refine gate_builtin (b := .append) (xs := #[.tmp 66, .tmp 71]) rfl ?_); at_builtin; refine Kd.R_append_row (Value.int .u8) (0 : Int) (h1 := fun _ => rfl) (w0 := w) (w.heap.size) rfl (.tmp 66) (.tmp 71) 22 5 (.int .u8 0) 1 rfl Tryd.underlying22 infoU8 rfl (by decide) (.slice (some ⟨g, 0, none⟩) b2.length cO) (b2) (r9) (Ar) (r9.length) (cr) (fun _ => True) rfl rfl (fun _ _ => trivial) ?aO ?aR ?aB ?aS ?aL ?_; (case aO => exact HO.out); (case aR => exact HT9.out); (case aB => exact HW.out); (case aS => exact (below_size (by exact HW.out))); (case aL => (omega)); intro v1 w1 ho hb hg hat; obtain ⟨aQ, cQ, rfl⟩ := Kd.R_slice ho; have HQ := Aside0.mk ho; have HWq := Aside0.mk hb; clear ho hb hg hat)
                  go_meet
                  case rel => exact ⟨aQ, cQ, b2 ++ r9, by rw [List.length_append], (Kd.R_reads' HQ.out).2.1, by rw [List.length_append]; omega, Lib.hid (byt_app HB2.out HBt.out), ⟨(Kd.R_reads' HQ.out).2.2⟩, HWq⟩
                · replace e2 : (bits .and .i64 how 3 == 2) = false := by simpa using e2
                  go_wp2_with fail
                  go_meet
                  case rel => exact ⟨some ⟨g, 0, none⟩, cO, b2, rfl, hoc, by omega, HB2, HOC, HW⟩
          · have h00 : b2.length = 0 := by omega
            have hoc := Aside0.mk (Kd.R_reads' HO.out).2.1
            clear h0
            go_wp2_with fail
            go_meet
            case rel => exact ⟨aO, cO, b2, by rw [h00], hoc.out, by omega, HB2, ⟨(Kd.R_reads' HO.out).2.2⟩, HW⟩
        case rest =>
          obtain ⟨A3, c3, b3, rfl, hc3, hb3, HB3, HC3, HW3⟩ := hcut
          clear HO HW HB2 hb2 HR HRB HCB
          have HG3 := Aside0.mk (Go.Proofs.YtbplemhjhpfkgaaDoor.Ft.Door.below HG.out HW3.out)
          cases hd : decD b3 with
          | none =>
            have HD : Hid (∀ W, Kd.C (Kd.int .u8) W A3 b3.length b3 → Calls Tryd.prog 31 #[.slice A3 b3.length c3] W fun e w' => ∃ t z, e = .returned (.tuple #[.agg #[.int .i64 0, .int .i64 0, .int .i64 0, .int .i64 0, .int .i64 0, .int .i64 0, .slice none 0 0, .slice none 0 0, .slice none 0 0], .iface t z]) ∧ Chain w' [(⟨#[99, 111, 100, 101]⟩, (b3.length : Int))] 1 (.iface t z) ∧ Below W.heap.size W w') := Lib.hid (fun W h => by
              refine (decode_calls A3 c3 b3 W h HB3.out (by omega)).mono ?_
              rintro e w' ⟨_, h2, hB⟩
              obtain ⟨u, rfl, hc⟩ := h2 hd
              obtain ⟨t, z, rfl⟩ := chain_iface hc
              exact ⟨t, z, rfl, hc, hB⟩)
            clear hd
            go_upto_region 15 with (go_at_call 31; refine (HD.out _ HC3.out).mono ?_; rintro e w6 ⟨t, z, rfl, hc, hB⟩; have HCh := Aside0.mk (Go.Proofs.YtbplemhjhpfkgaaDoor.Ft.Chain.below (below_alloc (Below.refl w6.heap.size w6) (.cells #[.int .i64 0, .int .i64 0, .int .i64 0, .int .i64 0, .int .i64 0, .int .i64 0, .slice none 0 0, .slice none 0 0, .slice none 0 0] 30)) hc); have HO6 := Aside0.mk (blk_new w6 (.cells #[.int .i64 0, .int .i64 0, .int .i64 0, .int .i64 0, .int .i64 0, .int .i64 0, .slice none 0 0, .slice none 0 0, .slice none 0 0] 30)); have HW6 := Aside0.mk (below_alloc (below_step HW3.out hB) (.cells #[.int .i64 0, .int .i64 0, .int .i64 0, .int .i64 0, .int .i64 0, .int .i64 0, .slice none 0 0, .slice none 0 0, .slice none 0 0] 30)); clear hc hB)
            generalize (w6.alloc (.cells #[.int .i64 0, .int .i64 0, .int .i64 0, .int .i64 0, .int .i64 0, .int .i64 0, .slice none 0 0, .slice none 0 0, .slice none 0 0] 30)) = wk at *
            generalize w6.heap.size = bk at *
            have HGk := Aside0.mk (Go.Proofs.YtbplemhjhpfkgaaDoor.Ft.Door.below HG.out HW6.out)
            have hs0 : sameD (⟨0, 0, 0, 0, 0, 0, [], [], []⟩ : OpD) (⟨0, 0, 0, 0, 0, 0, [], [], []⟩ : OpD) = true := by simp [sameD]
            have HS0 := Lib.hid hs0
            clear hs0
            go_wp2_with (first | (replace HW8 := HW8; go_at_call 3; refine (Cr.codeRuns_calls _ (Go.Proofs.YtbplemhjhpfkgaaDoor.Ft.Door.below HG.out HW9.out)).mono ?_; rintro e w9 ⟨rfl, hB⟩; have HWf := Aside0.mk (below_step HW9.out hB); clear hB) | (replace HW8 := HW8; go_at_call 19; refine (ops_calls (⟨0, 0, 0, 0, 0, 0, [], [], []⟩ : OpD) none 0 none 0 none 0 (⟨0, 0, 0, 0, 0, 0, [], [], []⟩ : OpD) none 0 none 0 none 0 _ ⟨nilCo _, nilAt _, nilR _⟩ ⟨nilCo _, nilAt _, nilR _⟩).mono ?_; rintro e w8 ⟨he, hB⟩; rw [HS0.out] at he; subst he; have HW9 := Aside0.mk (below_step HW8.out hB); clear hB) | (replace HW7 := HW7; go_at_call 30; refine (place_calls _ _ _ _ _ (Go.Proofs.YtbplemhjhpfkgaaDoor.Ft.Door.below HG.out HW7.out) HCh.out).mono ?_; rintro e w7 ⟨rfl, hB⟩; have HW8 := Aside0.mk (below_step HW7.out hB); replace HO6 := Aside0.mk (blk_below HO6.out hB); have r0 := blk_cell HO6.out 0; have r1 := blk_cell HO6.out 1; have r2 := blk_cell HO6.out 2; have r3 := blk_cell HO6.out 3; have r4 := blk_cell HO6.out 4; have r5 := blk_cell HO6.out 5; have r6 := blk_cell HO6.out 6; have r7 := blk_cell HO6.out 7; have r8 := blk_cell HO6.out 8; have hlr := blk_lt HO6.out; clear hB) | (go_at_call 15; refine (kind_calls _ _ _ _ HGk.out HCh.out).mono ?_; rintro e w7 ⟨rfl, hB⟩; have HW7 := Aside0.mk (below_step HW6.out hB); replace HCh := Aside0.mk (Go.Proofs.YtbplemhjhpfkgaaDoor.Ft.Chain.below hB HCh.out); replace HO6 := Aside0.mk (blk_below HO6.out hB); clear hB))
            go_ret
            exact ⟨rfl, HWf.out⟩
          | some o =>
            obtain ⟨hR, hE, hBo⟩ := decD_some hd
            have HD : Hid (∀ W, Kd.C (Kd.int .u8) W A3 b3.length b3 → Calls Tryd.prog 31 #[.slice A3 b3.length c3] W fun e w' => ∃ B6 n6 B7 n7 B8 n8, e = .returned (.tuple #[.agg #[.int .i64 o.k, .int .i64 o.c, .int .i64 o.q, .int .i64 o.h, .int .i64 o.a, .int .i64 o.t, .slice B6 o.p.length n6, .slice B7 o.s.length n7, .slice B8 o.r.length n8], .nilIface]) ∧ Lies w' o B6 B7 B8 ∧ Below W.heap.size W w') := Lib.hid (fun W h => by
              refine (decode_calls A3 c3 b3 W h HB3.out (by omega)).mono ?_
              rintro e w' ⟨h1, _, hB⟩
              obtain ⟨B6, n6, B7, n7, B8, n8, rfl, hL, _⟩ := h1 o hd
              exact ⟨B6, n6, B7, n7, B8, n8, rfl, hL, hB⟩)
            have HRo := Lib.hid hR
            have HBo := Lib.hid hBo
            have HEo := Lib.hid hE
            have HEQ : Hid (decide (b3 = b3) = true) := Lib.hid (by simp)
            clear hd hR hE hBo
            go_upto_region 15 with (go_at_call 31; refine (HD.out _ HC3.out).mono ?_; rintro e w6 ⟨B6, n6, B7, n7, B8, n8, rfl, hL, hB⟩; have HL6 := Aside0.mk (Lies.below hL (below_alloc (Below.refl w6.heap.size w6) (.cells #[.int .i64 o.k, .int .i64 o.c, .int .i64 o.q, .int .i64 o.h, .int .i64 o.a, .int .i64 o.t, .slice B6 o.p.length n6, .slice B7 o.s.length n7, .slice B8 o.r.length n8] 30))); have HO6 := Aside0.mk (blk_new w6 (.cells #[.int .i64 o.k, .int .i64 o.c, .int .i64 o.q, .int .i64 o.h, .int .i64 o.a, .int .i64 o.t, .slice B6 o.p.length n6, .slice B7 o.s.length n7, .slice B8 o.r.length n8] 30)); replace HC3 := Aside0.mk (Kd.C_below (Kd.C_below HC3.out hB) (below_alloc (Below.refl w6.heap.size w6) (.cells #[.int .i64 o.k, .int .i64 o.c, .int .i64 o.q, .int .i64 o.h, .int .i64 o.a, .int .i64 o.t, .slice B6 o.p.length n6, .slice B7 o.s.length n7, .slice B8 o.r.length n8] 30))); have HW6 := Aside0.mk (below_alloc (below_step HW3.out hB) (.cells #[.int .i64 o.k, .int .i64 o.c, .int .i64 o.q, .int .i64 o.h, .int .i64 o.a, .int .i64 o.t, .slice B6 o.p.length n6, .slice B7 o.s.length n7, .slice B8 o.r.length n8] 30)); clear hL hB)
            generalize (w6.alloc (.cells #[.int .i64 o.k, .int .i64 o.c, .int .i64 o.q, .int .i64 o.h, .int .i64 o.a, .int .i64 o.t, .slice B6 o.p.length n6, .slice B7 o.s.length n7, .slice B8 o.r.length n8] 30)) = wk at *
            generalize w6.heap.size = bk at *
            have q0 := (blk_cell HO6.out 0).trans (rfl : _ = some (Value.int .i64 o.k))
            have q1 := (blk_cell HO6.out 1).trans (rfl : _ = some (Value.int .i64 o.c))
            have q2 := (blk_cell HO6.out 2).trans (rfl : _ = some (Value.int .i64 o.q))
            have q3 := (blk_cell HO6.out 3).trans (rfl : _ = some (Value.int .i64 o.h))
            have q4 := (blk_cell HO6.out 4).trans (rfl : _ = some (Value.int .i64 o.a))
            have q5 := (blk_cell HO6.out 5).trans (rfl : _ = some (Value.int .i64 o.t))
            have q6 := (blk_cell HO6.out 6).trans (rfl : _ = some (Value.slice B6 o.p.length n6))
            have q7 := (blk_cell HO6.out 7).trans (rfl : _ = some (Value.slice B7 o.s.length n7))
            have q8 := (blk_cell HO6.out 8).trans (rfl : _ = some (Value.slice B8 o.r.length n8))
            have hlq := blk_lt HO6.out
            go_upto_region 18 with (go_at_call 14; refine (enc_right o B6 n6 B7 n7 B8 n8 _ HL6.out HBo.out HRo.out).mono ?_; rintro e w7 ⟨vb, rfl, hR, hB⟩; replace hR : Kd.R (Kd.int .u8) 5 w7 wk.heap.size (fun _ => True) vb (oBy o) := hR; rw [HEo.out] at hR; obtain ⟨Av, cv, rfl, hcv, hCv⟩ := Kd.R_reads hR; have HCV := Aside0.mk hCv; replace HC3 := Aside0.mk (Kd.C_below HC3.out hB); replace HO6 := Aside0.mk (blk_below HO6.out hB); replace HL6 := Aside0.mk (Lies.below HL6.out hB); have HW7 := Aside0.mk (below_step HW6.out hB); clear hR hB hCv)
            clear q0 q1 q2 q3 q4 q5 q6 q7 q8 hlq
            go_wp2_with (first | (replace HW9 := HW9; go_at_call 3; refine (Cr.codeRuns_calls _ (Go.Proofs.YtbplemhjhpfkgaaDoor.Ft.Door.below HG.out HW9.out)).mono ?_; rintro e w9 ⟨rfl, hB⟩; have HWf := Aside0.mk (below_step HW9.out hB); clear hB) | (replace HW8 := HW8; go_at_call 20; refine (right_calls o B6 n6 B7 n7 B8 n8 _ HL6.out HBo.out).mono ?_; rintro e w8 ⟨he, hB⟩; rw [HRo.out] at he; subst he; have HW9 := Aside0.mk (below_step HW8.out hB); clear hB) | (go_at_call 22; refine (sBy_calls Av cv b3 A3 c3 b3 _ HCV.out HC3.out).mono ?_; rintro e w8 ⟨he, hD0⟩; rw [decide_eq_true (rfl : b3 = b3)] at he; subst he; obtain ⟨mD, rfl⟩ := hD0; have HW8 := Aside0.mk (pw_below_drewN HW7.out mD); replace HO6 := Aside0.mk (blk_drewN HO6.out mD); replace HL6 := Aside0.mk (Lies.below HL6.out (pw_below_drewN (Below.refl _ _) mD)); have r0 := (blk_cell HO6.out 0).trans (rfl : _ = some (Value.int .i64 o.k)); have r1 := (blk_cell HO6.out 1).trans (rfl : _ = some (Value.int .i64 o.c)); have r2 := (blk_cell HO6.out 2).trans (rfl : _ = some (Value.int .i64 o.q)); have r3 := (blk_cell HO6.out 3).trans (rfl : _ = some (Value.int .i64 o.h)); have r4 := (blk_cell HO6.out 4).trans (rfl : _ = some (Value.int .i64 o.a)); have r5 := (blk_cell HO6.out 5).trans (rfl : _ = some (Value.int .i64 o.t)); have r6 := (blk_cell HO6.out 6).trans (rfl : _ = some (Value.slice B6 o.p.length n6)); have r7 := (blk_cell HO6.out 7).trans (rfl : _ = some (Value.slice B7 o.s.length n7)); have r8 := (blk_cell HO6.out 8).trans (rfl : _ = some (Value.slice B8 o.r.length n8)); have hlr := blk_lt HO6.out))
            go_ret
            exact ⟨rfl, HWf.out⟩
end Go.Proofs.YtbplemhjhpfkgaaDoor.Cd

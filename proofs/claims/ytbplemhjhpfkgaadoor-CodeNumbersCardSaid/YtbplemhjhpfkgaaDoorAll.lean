/-
  code.All of operations that are right.
-/
import Derived.Test.YtbplemhjhpfkgaaDoorRound
namespace Go.Proofs.YtbplemhjhpfkgaaDoor.Cd
open Go.RowKit Go.Proofs.YtbplemhjhpfkgaaDoorW.PrintWords Go.Proofs.YtbplemhjhpfkgaaDoorW.PrintLast Go.Proofs.YtbplemhjhpfkgaaDoorW.PrintMore Go.Proofs.YtbplemhjhpfkgaaDoor.Rd
open Go.Proofs.YtbplemhjhpfkgaaDoor.Ft (Door Chain new_chain kind_calls chain_iface)
set_option linter.unusedVariables false
set_option linter.unusedSimpArgs false
def allB (xs : List OpX) : List Int := xs.flatMap fun x => sB x.1
theorem allB_take {xs : List OpX} {j : Nat} {x : OpX} (h : xs[j]? = some x) : allB (xs.take (j + 1)) = allB (xs.take j) ++ be8 ((oBy x.1).length : Int) ++ oBy x.1 := by
  unfold allB
  rw [take_snocF (fun x : OpX => sB x.1) h]
  simp [sB, List.append_assoc]
theorem allB_le {xs : List OpX} (h : ∀ x ∈ xs, rightD x.1 = true) : (allB xs).length ≤ 300008 * xs.length := by
  induction xs with
  | nil => simp [allB]
  | cons x xs ih =>
    have h1 := ih (fun y hy => h y (by simp [hy]))
    have h2 := sB_le (h x (by simp))
    simp only [allB, List.flatMap_cons, List.length_append, List.length_cons] at h1 ⊢
    omega
set_option maxRecDepth 100000 in
set_option maxHeartbeats 16000000 in
theorem all_calls (A : Option Addr) (c : Nat) (xs : List OpX) (w : World) (hr : Kd.C kOp w A xs.length xs) (hl : ∀ x ∈ xs, LiesX w x) (hb : ∀ x ∈ xs, Byt x.1.r) (hR : ∀ x ∈ xs, rightD x.1 = true) (hn : xs.length ≤ 100) :
    Calls Tryd.prog 32 #[.slice A xs.length c] w fun e w' => ∃ v, e = .returned (.tuple #[v, .nilIface]) ∧ Kd.R (Kd.int .u8) 5 w' w.heap.size (fun _ => True) v (allB xs) ∧ Below w.heap.size w w' := by
  have HR := Aside0.mk hr
  have HL := Aside0.mk hl
  have HBy := Aside0.mk hb
  have HRt := Aside0.mk hR
  have HLe : Hid (∀ j, (allB (xs.take j)).length ≤ 30000800) := Lib.hid (fun j => by
    have h1 := allB_le (xs := xs.take j) (fun y hy => hR y (List.mem_of_mem_take hy))
    rw [List.length_take] at h1
    have : min j xs.length ≤ 100 := by omega
    omega)
  clear hr hl hb hR
  go_enter Tryd.func32, Tryd.ntmps32
  go_upto_region 3 with fail
  go_loopw [4, 11] (fun v i wr => ∃ j : Nat, j ≤ xs.length ∧ i = .int .i64 (j : Int) ∧ Aside0 (Kd.R (Kd.int .u8) 5 wr w.heap.size (fun _ => True) v (allB (xs.take j))) ∧ Aside0 (Below w.heap.size w wr)) (fun _ i _ => xs.length - (intOf i).toNat)
  case atStart => exact ⟨0, Nat.zero_le _, rfl, ⟨Kd.R_nil _ _ _ _ _⟩, ⟨Below.refl _ _⟩⟩
  case round =>
    obtain ⟨j, hj, rfl, HO, HW⟩ := hrel
    by_cases hlt : j < xs.length
    · obtain ⟨ad, ⟨o, ⟨A6, m6⟩, ⟨A7, m7⟩, ⟨A8, m8⟩⟩, rfl, hx, d0, d1, d2, d3, d4, d5, d6, d7, d8⟩ := at_Op (Kd.C_below HR.out HW.out) j hlt
      have hmem := List.mem_of_getElem? hx
      have HLx := Aside0.mk (show Lies wr o A6 A7 A8 from Lies.below (HL.out _ hmem) HW.out)
      have HBx : Hid (Byt o.r) := Lib.hid (HBy.out _ hmem)
      have HRx : Hid (rightD o = true) := Lib.hid (HRt.out _ hmem)
      obtain ⟨ob, hob⟩ : ∃ ob, oBy o = ob := ⟨_, rfl⟩
      have HE : Hid (allB (xs.take (j + 1)) = allB (xs.take j) ++ be8s [(ob.length : Int)] ++ ob) := Lib.hid (by rw [allB_take hx, be8s_oneL]; simp only [hob])
      have hpl := HLe.out j
      have hol : ob.length ≤ 300000 := by rw [← hob]; exact oBy_le HRx.out
      have HOB := Lib.hid hob
      dsimp only at d0 d1 d2 d3 d4 d5 d6 d7 d8
      clear hx hmem hob
      generalize allB (xs.take j) = pr at HO HE hpl
      have HQ := Aside0.mk (blk_new wr (.cells #[.int .i64 o.k, .int .i64 o.c, .int .i64 o.q, .int .i64 o.h, .int .i64 o.a, .int .i64 o.t, .slice A6 o.p.length m6, .slice A7 o.s.length m7, .slice A8 o.r.length m8] 30))
      have HL2 := Aside0.mk (Lies.below HLx.out (below_alloc (Below.refl wr.heap.size wr) (.cells #[.int .i64 o.k, .int .i64 o.c, .int .i64 o.q, .int .i64 o.h, .int .i64 o.a, .int .i64 o.t, .slice A6 o.p.length m6, .slice A7 o.s.length m7, .slice A8 o.r.length m8] 30)))
      replace HO := Aside0.mk (Kd.R_alloc HO.out (.cells #[.int .i64 o.k, .int .i64 o.c, .int .i64 o.q, .int .i64 o.h, .int .i64 o.a, .int .i64 o.t, .slice A6 o.p.length m6, .slice A7 o.s.length m7, .slice A8 o.r.length m8] 30))
      replace HW := Aside0.mk (below_alloc HW.out (.cells #[.int .i64 o.k, .int .i64 o.c, .int .i64 o.q, .int .i64 o.h, .int .i64 o.a, .int .i64 o.t, .slice A6 o.p.length m6, .slice A7 o.s.length m7, .slice A8 o.r.length m8] 30))
      clear HLx
      go_upto_region 5 with fail
      clear d0 d1 d2 d3 d4 d5 d6 d7 d8
      generalize (wr.alloc (.cells #[.int .i64 o.k, .int .i64 o.c, .int .i64 o.q, .int .i64 o.h, .int .i64 o.a, .int .i64 o.t, .slice A6 o.p.length m6, .slice A7 o.s.length m7, .slice A8 o.r.length m8] 30)) = wa at *
      generalize wr.heap.size = bq at *
      have q0 := (blk_cell HQ.out 0).trans (rfl : _ = some (Value.int .i64 o.k))
      have q1 := (blk_cell HQ.out 1).trans (rfl : _ = some (Value.int .i64 o.c))
      have q2 := (blk_cell HQ.out 2).trans (rfl : _ = some (Value.int .i64 o.q))
      have q3 := (blk_cell HQ.out 3).trans (rfl : _ = some (Value.int .i64 o.h))
      have q4 := (blk_cell HQ.out 4).trans (rfl : _ = some (Value.int .i64 o.a))
      have q5 := (blk_cell HQ.out 5).trans (rfl : _ = some (Value.int .i64 o.t))
      have q6 := (blk_cell HQ.out 6).trans (rfl : _ = some (Value.slice A6 o.p.length m6))
      have q7 := (blk_cell HQ.out 7).trans (rfl : _ = some (Value.slice A7 o.s.length m7))
      have q8 := (blk_cell HQ.out 8).trans (rfl : _ = some (Value.slice A8 o.r.length m8))
      have hlq := blk_lt HQ.out
      go_upto_region 8 with (go_at_call 14; refine (enc_right o A6 m6 A7 m7 A8 m8 _ HL2.out HBx.out HRx.out).mono ?_; rintro e w3 ⟨vb, rfl, hR, hB⟩; replace hR : Kd.R (Kd.int .u8) 5 w3 wa.heap.size (fun _ => True) vb (oBy o) := hR; rw [HOB.out] at hR; obtain ⟨Av, cv, rfl, hcv, hCv⟩ := Kd.R_reads hR; have HF := Aside0.mk (far_new (Kd.R_lt HO.out) (Kd.R_base hR)); have HV := Aside0.mk (Kd.R_lower hR HW.out.size); replace HO := Aside0.mk (Kd.R_below HO.out hB); replace HW := Aside0.mk (below_step HW.out hB); clear hR hB hCv)
      clear q0 q1 q2 q3 q4 q5 q6 q7 q8 hlq HQ HL2 HOB HBx HRx
      have hpr2 : (pr ++ be8s [(ob.length : Int)]).length ≤ 30000808 := by rw [List.length_append, be8s_len]; simp; omega
      have HNC := Aside0.mk (C_lit .i64 [(ob.length : Int)] w3 3 (by simp))
      replace HO := Aside0.mk (Kd.R_alloc HO.out (.cells #[.int .i64 (ob.length : Int)] 3))
      replace HV := Aside0.mk (Kd.R_alloc HV.out (.cells #[.int .i64 (ob.length : Int)] 3))
      replace HW := Aside0.mk (below_alloc HW.out (.cells #[.int .i64 (ob.length : Int)] 3))
      have hb8 : (be8s [(ob.length : Int)]).length = 8 := by rw [be8s_len]; rfl
      have HNm : Hid (∀ W, Kd.C (Kd.int .i64) W (some ⟨w3.heap.size, 0, none⟩) 1 [(ob.length : Int)] → Calls Tryd.prog 66 #[.slice (some ⟨w3.heap.size, 0, none⟩) 1 1] W fun e w' => ∃ v, e = .returned v ∧ Kd.R (Kd.int .u8) 5 w' W.heap.size (fun _ => True) v (be8s [(ob.length : Int)]) ∧ Below W.heap.size W w') := Lib.hid (fun W h => num_calls (some ⟨w3.heap.size, 0, none⟩) 1 [(ob.length : Int)] W h (by simp))
      generalize be8s [(ob.length : Int)] = b8 at *
      have HPR := Aside0.mk hpr2
      have HB8 := Lib.hid hb8
      clear hpr2 hb8
      go_wp2_with (first
        | (replace HO2 := HO2; ((with_reducible refine gate_builtin (b := .append) (xs := #[.tmp 31, .tmp 32]) rfl ?_); at_builtin; refine Kd.R_append_row (Value.int .u8) (0 : Int) (h1 := fun _ => rfl) (w0 := w) (w.heap.size) rfl (.tmp 31) (.tmp 32) 22 5 (.int .u8 0) 1 rfl Tryd.underlying22 infoU8 rfl (by decide) (v1) (pr ++ b8) (ob) (Av) (ob.length) (cv) (fun _ => True) rfl rfl (fun _ _ => trivial) ?aO ?aR ?aB ?aS ?aL ?_; (case aO => exact HO2.out); (case aR => exact (Kd.R_reads' HV.out).2.2); (case aB => exact HW.out); (case aS => exact (below_size (by exact HW.out))); (case aL => (have := HPR.out; simp only [List.length_append] at this ⊢; omega)); intro v1 w1 ho hb hg hat; have HO3 := Aside0.mk ho; replace HW := Aside0.mk hb; clear ho hb hg hat))
        | (replace HN := HN; ((with_reducible refine gate_builtin (b := .append) (xs := #[.tmp 26, .tmp 30]) rfl ?_); at_builtin; refine Kd.R_append_row (Value.int .u8) (0 : Int) (h1 := fun _ => rfl) (w0 := w) (w.heap.size) rfl (.tmp 26) (.tmp 30) 22 5 (.int .u8 0) 1 rfl Tryd.underlying22 infoU8 rfl (by decide) (u4) (pr) (b8) (An) (b8.length) (cn) (fun _ => True) rfl rfl (fun _ _ => trivial) ?aO ?aR ?aB ?aS ?aL ?_; (case aO => exact HO.out); (case aR => exact (Kd.R_reads' HN.out).2.2); (case aB => exact HW.out); (case aS => exact (below_size (by exact HW.out))); (case aL => (have := HPR.out; simp only [List.length_append] at this ⊢; omega)); intro v1 w1 ho hb hg hat; have HO2 := Aside0.mk ho; replace HW := Aside0.mk hb; replace HV := Aside0.mk (Kd.R_grown2 HV.out rfl hg HF.out); clear HN HO ho hb hg hat))
        | (go_at_call 66; refine (HNm.out _ HNC.out).mono ?_; rintro e w4 ⟨vn, rfl, hR, hB⟩; obtain ⟨An, cn, rfl⟩ := Kd.R_slice hR; have HN := Aside0.mk (Kd.R_lower hR HW.out.size); replace HO := Aside0.mk (Kd.R_below HO.out hB); replace HV := Aside0.mk (Kd.R_below HV.out hB); replace HW := Aside0.mk (below_step HW.out hB); clear hR hB))
      go_roundw
      case rel => exact ⟨j + 1, by omega, by go_num, ⟨by rw [HE.out]; exact HO3.out⟩, HW⟩
      case measure => simp [intOf]; omega
    · obtain rfl : j = xs.length := by omega
      rw [List.take_length] at HO
      go_wp2
      go_ret2
      exact ⟨u4, rfl, HO.out, HW.out⟩
end Go.Proofs.YtbplemhjhpfkgaaDoor.Cd

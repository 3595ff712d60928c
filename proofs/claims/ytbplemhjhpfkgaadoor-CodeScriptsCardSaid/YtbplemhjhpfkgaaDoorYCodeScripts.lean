/-
 CodeScripts' walk.
-/
import Derived.Test.YtbplemhjhpfkgaaDoorYScriptsReg
import Derived.Test.YtbplemhjhpfkgaaDoorYPart18
import Derived.Test.YtbplemhjhpfkgaaDoorYBookSame
import Derived.Test.YtbplemhjhpfkgaaDoorYCodeRuns
import Derived.Test.YtbplemhjhpfkgaaDoorYPart6
import Derived.Test.YtbplemhjhpfkgaaDoorYGraphMake
set_option linter.unusedVariables false
set_option linter.unusedSimpArgs false
namespace Go.Proofs.YtbplemhjhpfkgaaDoor.Cs
open Go.RowKit YtbplemhjhpfkgaaDoorW.PrintWords YtbplemhjhpfkgaaDoorW.PrintLast YtbplemhjhpfkgaaDoorW.PrintMore Rd
open Cd
open Go.Proofs.YtbplemhjhpfkgaaDoor.Wr (BOp BOpIn bW RowX RowIn KeyM KeyIn OpOk kop_calls)
open Go.Proofs.YtbplemhjhpfkgaaDoor.Gr (graph_calls)
open Go.Proofs.YtbplemhjhpfkgaaDoor.Ft (Door Chain new_chain kind_calls place_calls chain_iface)
def cs15Reg.T15 : Bool × List (List Nat × List Nat) := (true, [([], []), ([], []), ([0, 1], [0, 1]), ([2], [2]), ([], []), ([], []), ([4, 5], [4, 5]), ([6], [6]), ([3, 7], [3, 7]), ([8], [8])])
def cs15Reg.B15 : List Nat := [0, 0, 3, 7, 0, 0, 48, 112, 255, 511]
theorem cs15Reg.tab15 : rtab .any (opsOf Tryd.f10 15) = cs15Reg.T15 := by kernel_rfl
theorem cs15Reg.bits15 : waitsOk cs15Reg.T15.2 cs15Reg.B15 = true := by kernel_rfl
theorem past_asked {n : Nat} {A6 A7 A8 B6 B7 B8 : Option Addr} {m6 m7 m8 : Nat} {z : OpD} (h : Past3 n A6 A7 A8) (hB : (B6 = A6 ∨ B6 = none) ∧ (B7 = A7 ∨ B7 = none) ∧ (B8 = A8 ∨ B8 = none)) : PastX n ((z, (B6, m6), (B7, m7), (B8, m8)) : OpX) := by
 obtain ⟨h6, h7, h8⟩ := hB; refine ⟨?_, ?_, ?_⟩
 ·show Past n B6
  rcases h6 with rfl | rfl
  ·exact h.1
  ·exact Past.none _
 ·show Past n B7
  rcases h7 with rfl | rfl
  ·exact h.2.1
  ·exact Past.none _
 ·show Past n B8
  rcases h8 with rfl | rfl
  ·exact h.2.2
  ·exact Past.none _
theorem trace_first (n : Nat) (u : Value) (w : World) (hg : Door w) (hc : Chain w [(scrS, (n : Int))] 1 u) : Calls Tryd.prog 27 #[u] w fun e w' => ∃ (ad : Addr) (cc : Nat), e = .returned (.slice (some ad) 1 cc) ∧ w'.cell? ad = some (.string scrS) ∧ Below w.heap.size w w' := by
 refine (Trace_calls [(scrS, (n : Int))] 1 u w hg hc (by simp)).mono ?_; rintro e w' ⟨A, cc, rfl, hR, hB⟩; have hC : Kd.C Kd.string w' A 1 [scrS] := (Kd.R_reads' hR).2.2; obtain ⟨ad, rfl, h⟩ := Kd.at_string hC 0 (by omega) (by omega); refine ⟨ad, cc, rfl, ?_, hB⟩; have e0 : ad.add (0 : Int).toNat = ad := add_zero_ ad; rw [e0] at h; exact h
abbrev codS : ByteArray := ⟨#[99, 111, 100, 101]⟩
theorem trace_two (n : Nat) (u : Value) (w : World) (hg : Door w) (hc : Chain w [(scrS, (n : Int)), (codS, 0)] 1 u) : Calls Tryd.prog 27 #[u] w fun e w' => ∃ (A : Option Addr) (cc : Nat), e = .returned (.slice A 2 cc) ∧ 2 ≤ cc ∧ Kd.C Kd.string w' A 2 [scrS, codS] ∧ Below w.heap.size w w' := by
 refine (Trace_calls [(scrS, (n : Int)), (codS, 0)] 1 u w hg hc (by simp)).mono ?_; rintro e w' ⟨A, cc, rfl, hR, hB⟩; obtain ⟨_, c2, he, hc2, _⟩ := Kd.R_reads hR; cases he; exact ⟨A, cc, rfl, hc2, (Kd.R_reads' hR).2.2, hB⟩
theorem same2 (A : Option Addr) (c : Nat) (b : Nat) (w w0 : World) (hc : 2 ≤ c) (h1 : Kd.C Kd.string w0 A 2 [scrS, codS]) (hw : w = w0.alloc (.cells #[.string scrS, .string codS] 9)) (hb : b = w0.heap.size) : Calls Tryd.prog 26 #[.slice A 2 c, .slice (some ⟨b, 0, none⟩) 2 2] w fun e w' => e = .returned (.bool true) ∧ Below w.heap.size w w' := by
 subst hw; subst hb
 have h2 : Kd.C Kd.string (w0.alloc (.cells #[.string scrS, .string codS] 9)) (some ⟨w0.heap.size, 0, none⟩) 2 [scrS, codS] := by
  refine ⟨rfl, by decide, fun _ => ⟨⟨w0.heap.size, 0, none⟩, rfl, fun i y hy => ?_⟩⟩; have hblk := blk_new w0 (.cells #[.string scrS, .string codS] 9); rcases i with _ | _ | i
  ·obtain rfl := (Option.some.inj hy).symm; refine ⟨[.string scrS], rfl, rfl, fun j u hu => ?_⟩; rcases j with _ | j
   ·obtain rfl := Option.some.inj hu; rw [add_plain]; exact blk_cell hblk 0
   ·simp at hu
  ·obtain rfl := (Option.some.inj hy).symm; refine ⟨[.string codS], rfl, rfl, fun j u hu => ?_⟩; rcases j with _ | j
   ·obtain rfl := Option.some.inj hu; rw [add_plain]; exact blk_cell hblk 1
   ·simp at hu
  ·simp at hy
 have hx := PCodeKinds.broadsidebook_Same_string.calls 4 A c [scrS, codS] (some ⟨w0.heap.size, 0, none⟩) 2 [scrS, codS] true _ (Kd.C_below h1 (below_alloc (Below.refl _ _) _)) hc h2 (Nat.le_refl 2) (by kernel_rfl); refine hx.mono ?_; rintro e w' ⟨rfl, nd, rfl⟩; exact ⟨rfl, pw_below_drewN (Below.refl _ _) nd⟩
set_option maxRecDepth 100000 in
set_option maxHeartbeats 16000000 in
theorem codeScripts_calls (g : GKey) (A : Option Addr) (cl : Nat) (l : List BOp) (cut bad : Int) (w : World) (hg : Door w) (hx : GKeyIn w g) (hl : Kd.C kB w A l.length l) (hi : ∀ y ∈ l, BOpIn w y ∧ InI64 y.h) (hll : l.length ≤ cl) :
  Calls Tryd.prog 10 #[gW g, .slice A l.length cl, .int .i64 cut, .int .i64 bad] w fun e w' => e = .returned (.bool true) ∧ Below w.heap.size w w' := by
 have HG := sd hg; have HX := sd hx; have HL := sd hl; have HLI := sd hi; have HLL := Lib.hid hll; clear hg hx hl hi hll; have h4 := blk_new w (.cells #[.int .i64 g.b, .slice g.u.A g.u.l.length g.u.c, .slice g.m.A g.m.l.length g.m.c] 76); have q0 := (blk_cell h4 0).trans (rfl : _ = some (Value.int .i64 g.b)); have q1 := (blk_cell h4 1).trans (rfl : _ = some (Value.slice g.u.A g.u.l.length g.u.c)); have q2 := (blk_cell h4 2).trans (rfl : _ = some (Value.slice g.m.A g.m.l.length g.m.c)); have HB4 := sd (below_alloc (Below.refl w.heap.size w) (.cells #[.int .i64 g.b, .slice g.u.A g.u.l.length g.u.c, .slice g.m.A g.m.l.length g.m.c] 76)); clear h4
 go_enter Tryd.func10, Tryd.ntmps10
 go_upto_block 0 with (go_at_call 34; refine (graph_calls g.b g.u.A g.u.c g.u.l g.m.A g.m.c g.m.l _ (Kd.C_below HX.out.u.C HB4.out) HX.out.u.le (Kd.C_below HX.out.m.C HB4.out)).mono ?_; rintro e w5 ⟨B, AL, nL, cL, hb1, hb7, rfl, hB⟩; have HB1 := Lib.hid hb1; have HB7 := Lib.hid hb7; have HG9 := sd (blk_new w5 (.cells #[.int .i64 B, .slice AL nL cL] 80)); have HWD := sd (below_step (below_step HB4.out hB) (below_alloc (Below.refl w5.heap.size w5) (.cells #[.int .i64 B, .slice AL nL cL] 80))); clear hb1 hb7 hB)
 generalize (w5.alloc (.cells #[.int .i64 B, .slice AL nL cL] 80)) = wd at *; generalize w5.heap.size = g9 at *; clear q0 q1 q2 HB4
 go_cut [10] (fun v wx => ∃ (xs : List OpX) (aO : Option Addr) (cO : Nat), xs.length ≤ 10 ∧ v = .slice aO xs.length cO ∧ Aside0 (Kd.R kOp 30 wx wd.heap.size (fun _ => True) (.slice aO xs.length cO) xs) ∧ Aside0 (∀ x ∈ xs, (LiesX wx x ∧ OffX (Value.slice aO xs.length cO).ownBlock x) ∧ OkX x) ∧ Aside0 (Below wd.heap.size wd wx))
 case first =>
  focus
   go_upto_region 4 with fail
   go_loopw [10, 11] (fun v iv wr => ∃ (k : Nat) (xs : List OpX) (aO : Option Addr) (cO : Nat), k ≤ l.length ∧ k ≤ 10 ∧ iv = .int .i64 k ∧ xs.length = k ∧ v = .slice aO xs.length cO ∧ Aside0 (Kd.R kOp 30 wr wd.heap.size (fun _ => True) (.slice aO xs.length cO) xs) ∧ Aside0 (∀ x ∈ xs, (LiesX wr x ∧ OffX (Value.slice aO xs.length cO).ownBlock x) ∧ OkX x) ∧ Aside0 (Below wd.heap.size wd wr)) (fun _ iv _ => 11 - (intOf iv).toNat)
   case atStart => exact ⟨0, [], none, 0, Nat.zero_le _, Nat.zero_le _, rfl, rfl, rfl, ⟨Kd.R_nil _ _ _ _ _⟩, ⟨fun x hx => by cases hx⟩, ⟨Below.refl _ _⟩⟩
   case round =>
    obtain ⟨k, xs, aO, cO, hkl, hk10, rfl, hxk, rfl, HO, HXS, HWr⟩ := hrel; have HXK := Lib.hid hxk; have hxs10 : xs.length ≤ 10 := by omega
    clear hxk
    by_cases hlt : k < l.length
    case neg =>
     have hd0 : decide ((k : Int) < (l.length : Int)) = false := decide_eq_false (by omega); go_wp2; go_meet
     case rel => exact ⟨xs, aO, cO, hxs10, rfl, HO, HXS, HWr⟩
    have hd0 : decide ((k : Int) < (l.length : Int)) = true := decide_eq_true (by omega)
    by_cases hl10 : k < 10
    case neg =>
     have hd1 : decide ((k : Int) < 10) = false := decide_eq_false (by omega); go_wp2; go_meet
     case rel => exact ⟨xs, aO, cO, hxs10, rfl, HO, HXS, HWr⟩
    have hd1 : decide ((k : Int) < 10) = true := decide_eq_true (by omega)
    go_upto_region 6 with fail
    have HWR2 := sd (below_step HWD.out HWr.out); obtain ⟨adl, y, rfl, hy, hy0, hyj⟩ := at_B (Kd.C_below HL.out HWR2.out) k hlt; have HY0 := sd hy0; have HYJ := sd hyj; have HYI := sd (BOpIn.below (HLI.out y (List.mem_of_getElem? hy)).1 HWR2.out); have HYH := Lib.hid (HLI.out y (List.mem_of_getElem? hy)).2; have HKL := Lib.hid hlt; clear hy hy0 hyj hd0 hd1 hlt HWR2; replace HG9 := sd (blk_below HG9.out HWr.out); have HW := sd (Below.refl wr.heap.size wr)
    go_cut [12] (fun v wx => ∃ (d : OpD) (D6 : Option Addr) (n6 : Nat) (D7 : Option Addr) (n7 : Nat) (D8 : Option Addr) (n8 g12 : Nat), v = .pointer (some ⟨g12, 0, none⟩) ∧ Aside0 (wx.heap[g12]? = some (.cells #[.int .i64 d.k, .int .i64 d.c, .int .i64 d.q, .int .i64 d.h, .int .i64 d.a, .int .i64 d.t, .slice D6 d.p.length n6, .slice D7 d.s.length n7, .slice D8 d.r.length n8] 30 (0, 0))) ∧ Aside0 (Lies wx d D6 D7 D8) ∧ Aside0 (OpOk d) ∧ Aside0 (Past3 wr.heap.size D6 D7 D8) ∧ Aside0 (Below wr.heap.size wr wx))
    case first =>
     refine reg6 rfl rfl rfl rfl HKL.out HY0.out HYJ.out HYI.out HYH.out HG9.out HB1.out HB7.out ?_; intro d_ D6_ n6_ D7_ n7_ D8_ n8_ MA_ mc_ g12_ w' M12 LD OD PD HW1; clear HW; have HW := sd HW1; clear HW1; simp only [putSel, if_true, Act.put, List.setIfInBounds_toArray, List.set_cons_zero, List.set_cons_succ]; go_wp2; go_meet
     case rel => exact ⟨d_, D6_, n6_, D7_, n7_, D8_, n8_, g12_, rfl, ⟨M12⟩, ⟨LD⟩, ⟨OD⟩, ⟨PD⟩, HW⟩
    case rest =>
     obtain ⟨d, D6, n6, D7, n7, D8, n8, g12, rfl, HM12, HLD, HOD, HPD, HWc⟩ := hcut; clear HW; obtain ⟨q0, q1, q2, q3, q4, q5, q6, q7, q8⟩ := bl9 HM12.out; obtain ⟨z, hz⟩ : ∃ z, askd d = z := ⟨_, rfl⟩; have HAK : Hid (∀ W, Lies W d D6 D7 D8 → Calls Tryd.prog 18 #[.agg #[.int .i64 d.k, .int .i64 d.c, .int .i64 d.q, .int .i64 d.h, .int .i64 d.a, .int .i64 d.t, .slice D6 d.p.length n6, .slice D7 d.s.length n7, .slice D8 d.r.length n8]] W fun e w' => ∃ B6 n6 B7 n7 B8 n8, e = .returned (.agg #[.int .i64 z.k, .int .i64 z.c, .int .i64 z.q, .int .i64 z.h, .int .i64 z.a, .int .i64 z.t, .slice B6 z.p.length n6, .slice B7 z.s.length n7, .slice B8 z.r.length n8]) ∧ Lies w' z B6 B7 B8 ∧ ((B6 = D6 ∨ B6 = none) ∧ (B7 = D7 ∨ B7 = none) ∧ (B8 = D8 ∨ B8 = none)) ∧ Below W.heap.size W w') := Lib.hid (fun W h => by rw [← hz]; exact asked_far d D6 n6 D7 n7 D8 n8 W h); have HZK : Hid (rightD z = true ∧ WfD z ∧ Byt z.r) := Lib.hid (by rw [← hz]; exact ⟨HOD.out.R, HOD.out.W, HOD.out.B⟩); clear hz; have HWx := sd (below_step HWr.out HWc.out); have HO1 := sd (Kd.R_below HO.out HWc.out); have hlr := hxs10
     go_wp2_with (first
      | (replace HX9 := HX9; ((with_reducible refine gate_builtin (b := .append) (xs := #[.tmp 53, .tmp 56]) rfl ?_); at_builtin; refine Kd.R_append (kOp) (w0 := wd) (wd.heap.size) rfl (.tmp 53) (.tmp 56) 70 30 (.agg #[.int .i64 0, .int .i64 0, .int .i64 0, .int .i64 0, .int .i64 0, .int .i64 0, .slice none 0 0, .slice none 0 0, .slice none 0 0]) 120 rfl Tryd.underlying70 infoOp rfl (by decide) (by omega) (.slice aO xs.length cO) (xs) (((z, (B6, m6), (B7, m7), (B8, m8)) : OpX)) [.int .i64 z.k, .int .i64 z.c, .int .i64 z.q, .int .i64 z.h, .int .i64 z.a, .int .i64 z.t, .slice B6 z.p.length m6, .slice B7 z.s.length m7, .slice B8 z.r.length m8] (fun _ => True) (fun _ => False) rfl ?aX ?aP (fun _ hk => hk.elim) ?aF ?aO ?aB ?aS ?aL ?_; (case aX => first | rfl | (simp [Act.eval]; done)); (case aP => exact rfl); (case aB => exact (by repeat (with_reducible first | exact HWx2.out | apply below_alloc | apply pw_below_drewN | apply below_drew1))); (case aF => exact (fun _ _ => trivial)); (case aO => exact (by (with_reducible repeat (first | apply Kd.R_alloc | apply Kd.R_drewN | apply Kd.R_drew)); exact HO2.out)); (case aS => exact (below_size (by repeat (with_reducible first | exact HWx2.out | apply below_alloc | apply pw_below_drewN | apply below_drew1)))); (case aL => omega); intro v1 w1 ho hb hg hat; obtain ⟨A1, c1, rfl⟩ := Kd.R_slice ho; have HO3 := sd ho; have HW3 := sd hb; have HX4 : Aside0 (∀ y ∈ xs ++ [((z, (B6, m6), (B7, m7), (B8, m8)) : OpX)], (LiesX w1 y ∧ OffX (Value.slice A1 (xs ++ [((z, (B6, m6), (B7, m7), (B8, m8)) : OpX)]).length c1).ownBlock y) ∧ OkX y) := ⟨fun y hy => ⟨⟨LiesX_grown (HX3.out y hy).1.1 hg (HX3.out y hy).1.2, OffX_at (HX3.out y hy).1.1 (HX3.out y hy).1.2 hat⟩, (HX3.out y hy).2⟩⟩; clear ho hb hg hat))
      | (go_at_call 18; refine (HAK.out _ HLD.out).mono ?_; rintro e w6 ⟨B6, m6, B7, m7, B8, m8, rfl, hL6, hB6, hB⟩; have HO2 := sd (Kd.R_below HO1.out hB); have HWx2 := sd (below_step HWx.out hB); have HX3 : Aside0 (∀ y ∈ xs ++ [((z, (B6, m6), (B7, m7), (B8, m8)) : OpX)], (LiesX w6 y ∧ OffX (Value.slice aO xs.length cO).ownBlock y) ∧ OkX y) := ⟨fun y hy => (List.mem_append.1 hy).elim (fun h => ⟨⟨Lies.below (HXS.out y h).1.1 (below_step HWc.out hB), (HXS.out y h).1.2⟩, (HXS.out y h).2⟩) (fun h => by rw [List.mem_singleton.1 h]; exact ⟨⟨hL6, OffX_past (past_asked HPD.out hB6) (fun k hk => Kd.R_lt HO.out k hk)⟩, ⟨HZK.out.1, HZK.out.2.1, HZK.out.2.2⟩⟩)⟩; have HX9 := sd True.intro; clear hL6 hB6 hB))
     go_roundw
     case rel => exact ⟨k + 1, xs ++ [((z, (B6, m6), (B7, m7), (B8, m8)) : OpX)], A1, c1, by have := HKL.out; omega, by omega, by go_num, by rw [List.length_append, List.length_singleton, HXK.out], by rw [List.length_append, List.length_singleton], HO3, HX4, HW3⟩
     case measure => simp [intOf]; omega
 case rest =>
  obtain ⟨xs, aO, cO, hxs10, rfl, HO, HXS, HWd⟩ := hcut; have HCO := sd (Kd.R_reads' HO.out).2.2; have HCL := Lib.hid (Kd.R_reads' HO.out).2.1; have HBe := sd (below_step HWD.out HWd.out); have HLX : Aside0 (∀ x ∈ xs, LiesX wc x) := ⟨fun x hx => (HXS.out x hx).1.1⟩; have HOK : Aside0 (∀ x ∈ xs, OkX x) := ⟨fun x hx => (HXS.out x hx).2⟩; have HXC : Hid (xs.length ≤ cO) := Lib.hid (by obtain ⟨aq, cq, e, hq, _⟩ := Kd.R_reads HO.out; cases e; exact hq); clear HO HXS HWd HWD HG9 HL HLI HX HB1 HB7 HLL; obtain ⟨bs, hbs⟩ : ∃ b, allB xs = b := ⟨_, rfl⟩; have hsb : scB (xs.map (·.1)) = bs := by rw [← hbs]; simp [scB, allB, List.flatMap_map]
  have HSB := Lib.hid hsb; have HLE : Hid (bs.length ≤ 3000080) := Lib.hid (by have h1 := allB_le (xs := xs) (fun x hx => (HOK.out x hx).R); rw [hbs] at h1; omega)
  have HAll : Hid (∀ W, Kd.C kOp W aO xs.length xs → (∀ x ∈ xs, LiesX W x) → Calls Tryd.prog 32 #[.slice aO xs.length cO] W fun e w' => ∃ Ab cb, e = .returned (.tuple #[.slice Ab bs.length cb, .nilIface]) ∧ bs.length ≤ cb ∧ Kd.C (Kd.int .u8) w' Ab bs.length bs ∧ Below W.heap.size W w') := Lib.hid (fun W h h2 => by
   refine (all_calls aO cO xs W h h2 (fun x hx => (HOK.out x hx).B) (fun x hx => (HOK.out x hx).R) (by omega)).mono ?_; rintro e w' ⟨v, rfl, hR, hB⟩; rw [hbs] at hR; obtain ⟨Ab, cb, rfl, hcb, hCb⟩ := Kd.R_reads hR; exact ⟨Ab, cb, rfl, hcb, hCb, hB⟩)
  have HSpl : Hid (∀ A c W, Kd.C (Kd.int .u8) W A bs.length bs → bs.length ≤ c → Calls Tryd.prog 33 #[.slice A bs.length c] W fun e w' => ∃ (aY : Option Addr) (cY : Nat) (ys : List OpX), e = .returned (.tuple #[.slice aY xs.length cY, .nilIface]) ∧ Kd.C kOp w' aY xs.length ys ∧ ys.map (·.1) = xs.map (·.1) ∧ (∀ x ∈ ys, LiesX w' x) ∧ Below W.heap.size W w') := Lib.hid (fun A c W h hc => by
   have h1 := split_ok A c (xs.map (·.1)) W (by rw [hsb]; exact h) (by rw [hsb]; exact hc) (by rw [List.length_map]; omega) (fun o ho => by obtain ⟨x, hx, rfl⟩ := List.mem_map.1 ho; exact (HOK.out x hx).R) (fun o ho => by obtain ⟨x, hx, rfl⟩ := List.mem_map.1 ho; exact (HOK.out x hx).W) (fun o ho => by obtain ⟨x, hx, rfl⟩ := List.mem_map.1 ho; exact (HOK.out x hx).B); rw [hsb] at h1; refine h1.mono ?_; rintro e w' ⟨aY, cY, ys, rfl, hR, hM, hL, hB⟩; have hl : ys.length = xs.length := by have := congrArg List.length hM; simpa using this
   refine ⟨aY, cY, ys, by rw [hl], ?_, hM, hL, hB⟩; have := (Kd.R_reads' hR).2.2; rw [hl] at this; exact this)
  clear hbs hsb
  go_upto_block 2 with (first
   | (replace HX9 := HX9; go_at_call 33; refine (HSpl.out Ab cb _ HCb.out HCB2.out).mono ?_; rintro e wq ⟨aY, cY, ys, rfl, hCY, hMY, hLY, hB⟩; have HCY := sd hCY; have HMY := Lib.hid hMY; have HLY := sd hLY; replace HCb := sd (Kd.C_below HCb.out hB); replace HCO := sd (Kd.C_below HCO.out hB); replace HLX : Aside0 (∀ x ∈ xs, LiesX wq x) := ⟨fun x hx => Lies.below (HLX.out x hx) hB⟩; replace HBe := sd (below_step HBe.out hB); clear hCY hMY hLY hB)
   | (go_at_call 32; refine (HAll.out _ HCO.out HLX.out).mono ?_; rintro e w5 ⟨Ab, cb, rfl, hcb, hCb, hB⟩; have HCb := sd hCb; have HCB2 := Lib.hid hcb; replace HCO := sd (Kd.C_below HCO.out hB); replace HLX : Aside0 (∀ x ∈ xs, LiesX w5 x) := ⟨fun x hx => Lies.below (HLX.out x hx) hB⟩; replace HBe := sd (below_step HBe.out hB); have HX9 := sd True.intro; clear hcb hCb hB))
  clear HAll HSpl
  go_cut [] (fun wx => Aside0 (Below wq.heap.size wq wx))
  case first =>
   focus
    go_upto_region 13 with fail
    go_loopw [83] (fun iv wr => ∃ k : Nat, k ≤ xs.length ∧ iv = .int .i64 k ∧ Aside0 (Below wq.heap.size wq wr)) (fun iv _ => xs.length - (intOf iv).toNat)
    case atStart => exact ⟨0, Nat.zero_le _, rfl, ⟨Below.refl _ _⟩⟩
    case round =>
     obtain ⟨k, hk, rfl, HWr⟩ := hrel
     by_cases hlt : k < xs.length
     case neg =>
      have hd0 : decide ((k : Int) < (xs.length : Int)) = false := decide_eq_false (by omega); go_wp2; go_meet
      case rel => exact HWr
     have hd0 : decide ((k : Int) < (xs.length : Int)) = true := decide_eq_true (by omega); obtain ⟨adY, ⟨u, ⟨U6, Um6⟩, ⟨U7, Um7⟩, ⟨U8, Um8⟩⟩, rfl, hu, a0, a1, a2, a3, a4, a5, a6, a7, a8⟩ := at_Op (Kd.C_below HCY.out HWr.out) k hlt; obtain ⟨adO, ⟨v, ⟨V6, Vm6⟩, ⟨V7, Vm7⟩, ⟨V8, Vm8⟩⟩, rfl, hv, b0, b1, b2, b3, b4, b5, b6, b7, b8⟩ := at_Op (Kd.C_below HCO.out HWr.out) k hlt; have HU0 := sd a0; have HV0 := sd b0; have HU1 := sd a1; have HV1 := sd b1; have HU2 := sd a2; have HV2 := sd b2; have HU3 := sd a3; have HV3 := sd b3; have HU4 := sd a4; have HV4 := sd b4; have HU5 := sd a5; have HV5 := sd b5; have HU6 := sd a6; have HV6 := sd b6; have HU7 := sd a7; have HV7 := sd b7; have HU8 := sd a8; have HV8 := sd b8; have HLU := sd (show Lies wr u U6 U7 U8 from Lies.below (HLY.out _ (List.mem_of_getElem? hu)) HWr.out); have HLV := sd (show Lies wr v V6 V7 V8 from Lies.below (HLX.out _ (List.mem_of_getElem? hv)) HWr.out)
     have HSD : Hid (sameD u v = true) := Lib.hid (by
      have h1 : (ys.map (·.1))[k]? = some u := by rw [List.getElem?_map, hu]; rfl
      have h2 : (xs.map (·.1))[k]? = some v := by rw [List.getElem?_map, hv]; rfl
      rw [HMY.out, h2] at h1; exact decide_eq_true (Option.some.inj h1).symm)
     have HKL := Lib.hid hlt; clear a0 a1 a2 a3 a4 a5 a6 a7 a8 b0 b1 b2 b3 b4 b5 b6 b7 b8 hu hv
     go_upto_region 15 with fail
     clear hd0 hlt; have HW := sd (Below.refl wr.heap.size wr); refine start_ (n := 10) (S := fun w' => True) (ds := []) #[false, false, false, false, false, false, false, false, false, false] (by kernel_rfl) rfl rfl trivial (fun hHeld => ?_); refine with_tabW cs15Reg.tab15 cs15Reg.bits15 (fun HT_ HW_ => ?_); refine inv_at [0, 1, 2, 3, 4, 5, 6, 7, 8, 9] (fun a0_ b a w' => a = putSel a0_ b [(0, 86, .slice (some adY) xs.length cY), (1, 87, .int .i64 (k : Int)), (2, 88, .pointer (some (adY.add (k * 9)))), (3, 89, .agg #[.int .i64 u.k, .int .i64 u.c, .int .i64 u.q, .int .i64 u.h, .int .i64 u.a, .int .i64 u.t, .slice U6 u.p.length Um6, .slice U7 u.s.length Um7, .slice U8 u.r.length Um8]), (4, 90, .slice (some adO) xs.length cO), (5, 91, .int .i64 (k : Int)), (6, 92, .pointer (some (adO.add (k * 9)))), (7, 93, .agg #[.int .i64 v.k, .int .i64 v.c, .int .i64 v.q, .int .i64 v.h, .int .i64 v.a, .int .i64 v.t, .slice V6 v.p.length Vm6, .slice V7 v.s.length Vm7, .slice V8 v.r.length Vm8]), (8, 94, .bool true), (9, 95, .bool false)] ∧ (Below wr.heap.size wr w')) HT_.out HW_.out (by kernel_rfl) (by kernel_rfl) ?_ ?_ ?_
     ·exact ⟨by simp only [putSel, Bool.false_eq_true, if_false], below_drew HW.out⟩
     ·skip
      clear HW; refine steps_cons ?_ ?_
      ·rintro b a w' ⟨ha, QHW⟩ hb_ hon hoff; refine ⟨_, rfl, fun K hK => ?_⟩; have e16 := ef ha 16 (.slice (some adY) xs.length cY); replace ha := sd ha; have HW := sd QHW; refine value_ (w1 := w') (v := .slice (some adY) xs.length cY) (by rfl) rfl ?_ ?_
       ·go_simp; (try simp only [i64_w]); try rfl
       refine hK.out _ _ ⟨uk ha.out 0 hb_ rfl rfl rfl, QHW⟩
      refine steps_cons ?_ ?_
      ·rintro b a w' ⟨ha, QHW⟩ hb_ hon hoff; refine ⟨_, rfl, fun K hK => ?_⟩; have e18 := ef ha 18 (.int .i64 (k : Int)); replace ha := sd ha; have HW := sd QHW; refine value_ (w1 := w') (v := .int .i64 (k : Int)) (by rfl) rfl ?_ ?_
       ·go_simp; (try simp only [i64_w]); try rfl
       refine hK.out _ _ ⟨uk ha.out 1 hb_ rfl rfl rfl, QHW⟩
      refine steps_cons ?_ ?_
      ·rintro b a w' ⟨ha, QHW⟩ hb_ hon hoff; refine ⟨_, rfl, fun K hK => ?_⟩; have e86 := ek ha 0 0 86 (.slice (some adY) xs.length cY) hon; have e87 := ek ha 1 1 87 (.int .i64 (k : Int)) hon; replace ha := sd ha; have HW := sd QHW; have hkl := HKL.out; refine value_ (w1 := w') (v := .pointer (some (adY.add (k * 9)))) (by rfl) rfl ?_ ?_
       ·go_simp; (try simp only [i64_w]); try rfl
       refine hK.out _ _ ⟨uk ha.out 2 hb_ rfl rfl rfl, QHW⟩
      refine steps_cons ?_ ?_
      ·rintro b a w' ⟨ha, QHW⟩ hb_ hon hoff; refine ⟨_, rfl, fun K hK => ?_⟩; have e88 := ek ha 2 2 88 (.pointer (some (adY.add (k * 9)))) hon; replace ha := sd ha; have HW := sd QHW; have q0 := cells_at HW.out HU0.out; have q1 := cells_at HW.out HU1.out; have q2 := cells_at HW.out HU2.out; have q3 := cells_at HW.out HU3.out; have q4 := cells_at HW.out HU4.out; have q5 := cells_at HW.out HU5.out; have q6 := cells_at HW.out HU6.out; have q7 := cells_at HW.out HU7.out; have q8 := cells_at HW.out HU8.out; refine value_ (w1 := w') (v := .agg #[.int .i64 u.k, .int .i64 u.c, .int .i64 u.q, .int .i64 u.h, .int .i64 u.a, .int .i64 u.t, .slice U6 u.p.length Um6, .slice U7 u.s.length Um7, .slice U8 u.r.length Um8]) (by rfl) rfl ?_ ?_
       ·go_simp; (try simp only [i64_w]); try rfl
       refine hK.out _ _ ⟨uk ha.out 3 hb_ rfl rfl rfl, QHW⟩
      refine steps_cons ?_ ?_
      ·rintro b a w' ⟨ha, QHW⟩ hb_ hon hoff; refine ⟨_, rfl, fun K hK => ?_⟩; have e10 := ef ha 10 (.slice (some adO) xs.length cO); replace ha := sd ha; have HW := sd QHW; refine value_ (w1 := w') (v := .slice (some adO) xs.length cO) (by rfl) rfl ?_ ?_
       ·go_simp; (try simp only [i64_w]); try rfl
       refine hK.out _ _ ⟨uk ha.out 4 hb_ rfl rfl rfl, QHW⟩
      refine steps_cons ?_ ?_
      ·rintro b a w' ⟨ha, QHW⟩ hb_ hon hoff; refine ⟨_, rfl, fun K hK => ?_⟩; have e18 := ef ha 18 (.int .i64 (k : Int)); replace ha := sd ha; have HW := sd QHW; refine value_ (w1 := w') (v := .int .i64 (k : Int)) (by rfl) rfl ?_ ?_
       ·go_simp; (try simp only [i64_w]); try rfl
       refine hK.out _ _ ⟨uk ha.out 5 hb_ rfl rfl rfl, QHW⟩
      refine steps_cons ?_ ?_
      ·rintro b a w' ⟨ha, QHW⟩ hb_ hon hoff; refine ⟨_, rfl, fun K hK => ?_⟩; have e90 := ek ha 4 4 90 (.slice (some adO) xs.length cO) hon; have e91 := ek ha 5 5 91 (.int .i64 (k : Int)) hon; replace ha := sd ha; have HW := sd QHW; have hkl := HKL.out; refine value_ (w1 := w') (v := .pointer (some (adO.add (k * 9)))) (by rfl) rfl ?_ ?_
       ·go_simp; (try simp only [i64_w]); try rfl
       refine hK.out _ _ ⟨uk ha.out 6 hb_ rfl rfl rfl, QHW⟩
      refine steps_cons ?_ ?_
      ·rintro b a w' ⟨ha, QHW⟩ hb_ hon hoff; refine ⟨_, rfl, fun K hK => ?_⟩; have e92 := ek ha 6 6 92 (.pointer (some (adO.add (k * 9)))) hon; replace ha := sd ha; have HW := sd QHW; have q0 := cells_at HW.out HV0.out; have q1 := cells_at HW.out HV1.out; have q2 := cells_at HW.out HV2.out; have q3 := cells_at HW.out HV3.out; have q4 := cells_at HW.out HV4.out; have q5 := cells_at HW.out HV5.out; have q6 := cells_at HW.out HV6.out; have q7 := cells_at HW.out HV7.out; have q8 := cells_at HW.out HV8.out; refine value_ (w1 := w') (v := .agg #[.int .i64 v.k, .int .i64 v.c, .int .i64 v.q, .int .i64 v.h, .int .i64 v.a, .int .i64 v.t, .slice V6 v.p.length Vm6, .slice V7 v.s.length Vm7, .slice V8 v.r.length Vm8]) (by rfl) rfl ?_ ?_
       ·go_simp; (try simp only [i64_w]); try rfl
       refine hK.out _ _ ⟨uk ha.out 7 hb_ rfl rfl rfl, QHW⟩
      refine steps_cons ?_ ?_
      ·rintro b a w' ⟨ha, QHW⟩ hb_ hon hoff; refine ⟨_, rfl, fun K hK => ?_⟩; have e89 := ek ha 3 3 89 (.agg #[.int .i64 u.k, .int .i64 u.c, .int .i64 u.q, .int .i64 u.h, .int .i64 u.a, .int .i64 u.t, .slice U6 u.p.length Um6, .slice U7 u.s.length Um7, .slice U8 u.r.length Um8]) hon; have e93 := ek ha 7 7 93 (.agg #[.int .i64 v.k, .int .i64 v.c, .int .i64 v.q, .int .i64 v.h, .int .i64 v.a, .int .i64 v.t, .slice V6 v.p.length Vm6, .slice V7 v.s.length Vm7, .slice V8 v.r.length Vm8]) hon; replace ha := sd ha; have HW := sd QHW; refine goes_ Tryd.func19 (by kernel_rfl) rfl #[.agg #[.int .i64 u.k, .int .i64 u.c, .int .i64 u.q, .int .i64 u.h, .int .i64 u.a, .int .i64 u.t, .slice U6 u.p.length Um6, .slice U7 u.s.length Um7, .slice U8 u.r.length Um8], .agg #[.int .i64 v.k, .int .i64 v.c, .int .i64 v.q, .int .i64 v.h, .int .i64 v.a, .int .i64 v.t, .slice V6 v.p.length Vm6, .slice V7 v.s.length Vm7, .slice V8 v.r.length Vm8]] (by rfl) rfl rfl (ev2 e89 e93) ?_; refine (ops_calls u U6 Um6 U7 Um7 U8 Um8 v V6 Vm6 V7 Vm7 V8 Vm8 w' (Lies.below HLU.out HW.out) (Lies.below HLV.out HW.out)).mono ?_; rintro e w2 ⟨he, hB⟩; rw [HSD.out] at he; subst he; refine ⟨_, rfl, ?_⟩; refine hK.out _ _ ⟨uk ha.out 8 hb_ rfl rfl rfl, below_step HW.out hB⟩
      refine steps_cons ?_ ?_
      ·rintro b a w' ⟨ha, QHW⟩ hb_ hon hoff; refine ⟨_, rfl, fun K hK => ?_⟩; have e94 := ek ha 8 8 94 (.bool true) hon; replace ha := sd ha; have HW := sd QHW; refine value_ (w1 := w') (v := .bool false) (by rfl) rfl ?_ ?_
       ·go_simp; (try simp only [i64_w]); try rfl
       refine hK.out _ _ ⟨uk ha.out 9 hb_ rfl rfl rfl, QHW⟩
      exact steps_nil
     ·rintro b a w' hall ⟨ha, QHW⟩; clear HW; have hb0_ := hall 0 (by kernel_rfl); have hb1_ := hall 1 (by kernel_rfl); have hb2_ := hall 2 (by kernel_rfl); have hb3_ := hall 3 (by kernel_rfl); have hb4_ := hall 4 (by kernel_rfl); have hb5_ := hall 5 (by kernel_rfl); have hb6_ := hall 6 (by kernel_rfl); have hb7_ := hall 7 (by kernel_rfl); have hb8_ := hall 8 (by kernel_rfl); have hb9_ := hall 9 (by kernel_rfl); subst ha; simp only [putSel, hb0_, hb1_, hb2_, hb3_, hb4_, hb5_, hb6_, hb7_, hb8_, hb9_, if_true, Act.put, List.setIfInBounds_toArray, List.set_cons_zero, List.set_cons_succ]; have HW := sd QHW; clear QHW; clear hall hb0_ hb1_ hb2_ hb3_ hb4_ hb5_ hb6_ hb7_ hb8_ hb9_; have HWn := sd (below_step HWr.out HW.out); go_wp2
      go_roundw
      case rel => exact ⟨k + 1, by have := HKL.out; omega, by go_num, HWn⟩
      case measure => have := HKL.out; simp [intOf]; omega
  case rest =>
   have HWq := hcut; clear HCY HMY HLY; replace HCb := sd (Kd.C_below HCb.out HWq.out); replace HCO := sd (Kd.C_below HCO.out HWq.out); replace HLX : Aside0 (∀ x ∈ xs, LiesX _ x) := ⟨fun x hx => Lies.below (HLX.out x hx) HWq.out⟩; replace HBe := sd (below_step HBe.out HWq.out); clear HWq hcut; have HGc := sd (HG.out.below HBe.out)
   by_cases hb0 : bs.length = 0
   case pos =>
    have hd0 : ((bs.length : Int) == 0) = true := by simp [hb0]
    clear hb0; go_wp2_with (go_at_call 3; refine (Cr.codeRuns_calls _ HGc.out).mono ?_; rintro e w7 ⟨rfl, hB⟩; have HW7 := sd (below_step HBe.out hB); clear hB); go_ret; exact ⟨rfl, HW7.out⟩
   have hd0 : ((bs.length : Int) == 0) = false := beq_eq_false_iff_ne.2 (by omega); have hpos : 0 < bs.length := by omega
   have hle := HLE.out; clear hb0; have hbd := within_bd cut 0 ((bs.length : Int) - 1) (by omega); obtain ⟨cn, hcn⟩ : ∃ z : Nat, within cut 0 ((bs.length : Int) - 1) = (z : Int) := ⟨(within cut 0 ((bs.length : Int) - 1)).toNat, (Int.toNat_of_nonneg hbd.1).symm⟩; rw [hcn] at hbd; have HCN := Lib.hid hcn; clear hcn; obtain ⟨n, m, o0, hon, hm, hcm, htk⟩ := cut_at (xs.map (·.1)) cn (by rw [HSB.out]; omega); rw [HSB.out] at htk; obtain ⟨c8, C8, _⟩ := cut_u8 Ab cb bs (cn : Int) cn (by simp) (by omega) (by omega) HCB2.out; have HCc := sd (C8 _ HCb.out); have hccb : cn ≤ cb := by have := HCB2.out; omega
   have HS2 := Lib.hid (fun W h => split_at xs HOK.out hxs10 bs cn n m o0 hon hm hcm htk Ab cb W h hccb); have hnl : n < xs.length := by obtain ⟨h1, _⟩ := List.getElem?_eq_some_iff.1 hon; simpa using h1
   have HBig : Hid (m < 8 + (oBy o0).length) := Lib.hid (by
    have h2 : (sB o0).length = 8 + (oBy o0).length := by
     unfold sB; rw [List.length_append, be8_len]
    omega)
   have HON := Lib.hid hon; obtain ⟨wl, hwl⟩ : ∃ f : Nat → Nat, (fun j => (scB ((xs.map (·.1)).take j)).length) = f := ⟨_, rfl⟩; have HWL : Hid (∀ j x, xs[j]? = some x → wl (j + 1) = wl j + (8 + (oBy x.1).length)) := Lib.hid (fun j x hx => by rw [← hwl]; exact len_take _ j x.1 (by rw [List.getElem?_map, hx]; rfl)); have HWM : Hid (∀ i j, i ≤ j → wl i ≤ wl j) := Lib.hid (fun i j h => by rw [← hwl]; exact len_mono _ h); have HW0 : Hid (wl 0 = 0) := Lib.hid (by rw [← hwl]; simp [scB]); have hcm2 : cn = wl n + m := by rw [← hwl]; exact hcm
   clear hon hm hcm htk C8 hwl; have HCM := Lib.hid hcm2; clear hcm2
   go_upto_block 4 with (first
    | (replace HX9 := HX9; go_at_call 33; refine (HS2.out _ HCc.out).mono ?_; rintro e w6 ⟨aS, nS, cS, uS, rfl, hPS, hB⟩; have HPS := sd hPS; replace HCO := sd (Kd.C_below HCO.out hB); replace HLX : Aside0 (∀ x ∈ xs, LiesX w6 x) := ⟨fun x hx => Lies.below (HLX.out x hx) hB⟩; replace HBe := sd (below_step HBe.out hB); replace HGc := sd (HGc.out.below hB); clear hPS hB)
    | (go_at_call 24; refine (within_calls cut 0 ((bs.length : Int) - 1) _ (by omega) (by omega) (by omega)).mono ?_; rintro e w5 ⟨he, rfl⟩; rw [HCN.out] at he; subst he; have HX9 := sd True.intro))
   clear HX9 HS2 HCc HCb hd0 c8
   go_cut [22, 23] (fun a b wx => a = .int .i64 (n : Int) ∧ b = .int .i64 (wl n : Int) ∧ Aside0 (Below w6.heap.size w6 wx))
   case first =>
    focus
     go_upto_region 24 with fail
     go_loopw [115, 22, 23] (fun iv a b wr => ∃ j : Nat, j ≤ n ∧ iv = .int .i64 j ∧ a = .int .i64 j ∧ b = .int .i64 (wl j : Int) ∧ Aside0 (Below w6.heap.size w6 wr)) (fun iv _ _ _ => xs.length - (intOf iv).toNat)
     case atStart => exact ⟨0, Nat.zero_le _, rfl, rfl, by rw [HW0.out]; rfl, ⟨Below.refl _ _⟩⟩
     case round =>
      obtain ⟨j, hj, rfl, rfl, rfl, HWr⟩ := hrel; have hlt : j < xs.length := by omega
      have hd0 : decide ((j : Int) < (xs.length : Int)) = true := decide_eq_true (by omega); obtain ⟨adO, ⟨o, ⟨A6, m6⟩, ⟨A7, m7⟩, ⟨A8, m8⟩⟩, rfl, hx, d0, d1, d2, d3, d4, d5, d6, d7, d8⟩ := at_Op (Kd.C_below HCO.out HWr.out) j hlt; have hmem := List.mem_of_getElem? hx; have hok := HOK.out _ hmem; have HBx : Hid (Byt o.r) := Lib.hid hok.B; have HRx : Hid (rightD o = true) := Lib.hid hok.R; have hwn := HWL.out j _ hx; have hob3 : (oBy o).length ≤ 300000 := oBy_le hok.R
      have HCM2 : Hid (j = n → (wl n : Int) + 8 + ((oBy o).length : Int) > (cn : Int)) := Lib.hid (fun e => by
       subst e; have h1 : (xs.map (·.1))[j]? = some o := by rw [List.getElem?_map, hx]; rfl
       rw [HON.out] at h1; obtain rfl := Option.some.inj h1; have h2 := HBig.out; have h3 := HCM.out; omega)
      have HCM3 : Hid (j < n → ¬ (wl j : Int) + 8 + ((oBy o).length : Int) > (cn : Int)) := Lib.hid (fun e => by
       have h1 := HWM.out (j + 1) n (by omega); have h3 := HCM.out
       dsimp only at hwn
       omega)
      have HWN : Hid (wl (j + 1) = wl j + (8 + (oBy o).length)) := Lib.hid hwn; clear hwn; have hwl9 : wl j ≤ 3000080 := by have h1 := HWM.out j n hj; have h3 := HCM.out; omega
      dsimp only at d0 d1 d2 d3 d4 d5 d6 d7 d8
      have HLx := sd (show Lies wr o A6 A7 A8 from Lies.below (HLX.out _ hmem) HWr.out); clear hx hmem hok; have HQ := sd (blk_new wr (.cells #[.int .i64 o.k, .int .i64 o.c, .int .i64 o.q, .int .i64 o.h, .int .i64 o.a, .int .i64 o.t, .slice A6 o.p.length m6, .slice A7 o.s.length m7, .slice A8 o.r.length m8] 30)); have HL2 := sd (Lies.below HLx.out (below_alloc (Below.refl wr.heap.size wr) (.cells #[.int .i64 o.k, .int .i64 o.c, .int .i64 o.q, .int .i64 o.h, .int .i64 o.a, .int .i64 o.t, .slice A6 o.p.length m6, .slice A7 o.s.length m7, .slice A8 o.r.length m8] 30))); replace HWr := sd (below_alloc HWr.out (.cells #[.int .i64 o.k, .int .i64 o.c, .int .i64 o.q, .int .i64 o.h, .int .i64 o.a, .int .i64 o.t, .slice A6 o.p.length m6, .slice A7 o.s.length m7, .slice A8 o.r.length m8] 30)); clear HLx; obtain ⟨obl, hobl⟩ : ∃ z, (oBy o).length = z := ⟨_, rfl⟩
      have HEn : Hid (∀ W, Lies W o A6 A7 A8 → Calls Tryd.prog 14 #[.agg #[.int .i64 o.k, .int .i64 o.c, .int .i64 o.q, .int .i64 o.h, .int .i64 o.a, .int .i64 o.t, .slice A6 o.p.length m6, .slice A7 o.s.length m7, .slice A8 o.r.length m8]] W fun e w' => ∃ Av cv, e = .returned (.tuple #[.slice Av obl cv, .nilIface]) ∧ Below W.heap.size W w') := Lib.hid (fun W h => by
       refine (enc_right o A6 m6 A7 m7 A8 m8 W h HBx.out HRx.out).mono ?_; rintro e w' ⟨v, rfl, hR, hB⟩; have hR2 : Kd.R (Kd.int .u8) 5 w' W.heap.size (fun _ => True) v (oBy o) := hR; obtain ⟨Av, cv, rfl, _, _⟩ := Kd.R_reads hR2; exact ⟨Av, cv, by rw [hobl], hB⟩)
      rw [hobl] at HCM2 HCM3 HWN hob3; clear hobl
      go_upto_region 26 with fail
      clear d0 d1 d2 d3 d4 d5 d6 d7 d8 hd0; generalize (wr.alloc (.cells #[.int .i64 o.k, .int .i64 o.c, .int .i64 o.q, .int .i64 o.h, .int .i64 o.a, .int .i64 o.t, .slice A6 o.p.length m6, .slice A7 o.s.length m7, .slice A8 o.r.length m8] 30)) = wa at *; generalize wr.heap.size = bq at *; obtain ⟨q0, q1, q2, q3, q4, q5, q6, q7, q8⟩ := bl9 HQ.out; have hwl8 : IntKind.i64.wrap ((wl j : Int) + 8) = (wl j : Int) + 8 := by rw [i64_w]; unfold wrap64; omega
      have hwl7 : IntKind.i64.wrap ((wl j : Int) + 8 + (obl : Int)) = (wl j : Int) + 8 + (obl : Int) := by rw [i64_w]; unfold wrap64; omega
      by_cases hjn : j < n
      case pos =>
       have hdc : decide ((wl j : Int) + 8 + (obl : Int) > (cn : Int)) = false := decide_eq_false (HCM3.out hjn); go_wp2_with (go_at_call 14; refine (HEn.out _ HL2.out).mono ?_; rintro e w3 ⟨Av, cv, rfl, hB⟩; replace HWr := sd (below_step HWr.out hB); clear hB)
       go_roundw
       case rel => exact ⟨j + 1, by omega, by go_num, by go_num, by rw [HWN.out]; go_num, HWr⟩
       case measure => simp [intOf]; omega
      obtain rfl : j = n := by omega
      have hdc : decide ((wl j : Int) + 8 + (obl : Int) > (cn : Int)) = true := decide_eq_true (HCM2.out rfl); go_wp2_with (go_at_call 14; refine (HEn.out _ HL2.out).mono ?_; rintro e w3 ⟨Av, cv, rfl, hB⟩; replace HWr := sd (below_step HWr.out hB); clear hB); go_meet
      case rel => exact ⟨rfl, rfl, HWr⟩
   case rest =>
    obtain ⟨rfl, rfl, HW6⟩ := hcut; replace HCO := sd (Kd.C_below HCO.out HW6.out); replace HLX : Aside0 (∀ x ∈ xs, LiesX _ x) := ⟨fun x hx => Lies.below (HLX.out x hx) HW6.out⟩; replace HBe := sd (below_step HBe.out HW6.out); replace HGc := sd (HGc.out.below HW6.out); replace HPS := sd (HPS.out.below HW6.out); clear HW6 HWL HWM HW0 HBig HON
    go_upto_region 30 with fail
    have HW5 := sd (Below.refl wc.heap.size wc)
    go_cut [189] (fun v wx => v = .bool false ∧ Aside0 (Below wc.heap.size wc wx))
    case first =>
     focus
      have hps := HPS.out; clear HPS; rcases hps with ⟨hm0, hn0, hu0⟩ | ⟨hm0, hn0, hch⟩
      case inl =>
       subst hu0; subst hn0; have hwc : ((wl nS : Int) == (cn : Int)) = true := by have h1 := HCM.out; simp; omega
       have hwn : ((wl nS : Int) != (cn : Int)) = false := by have h1 := HCM.out; simp; omega
       go_wp2; go_meet
       case rel => exact ⟨by first | rfl | (simp; done) | (simp [*]; done), HW5⟩
      case inr =>
       subst hn0; have HC5 := sd hch; have HG5 := HGc; obtain ⟨te, ze, rfl⟩ := chain_iface hch; clear hch; have hwc : ((wl n : Int) == (cn : Int)) = false := beq_eq_false_iff_ne.2 (by have h1 := HCM.out; omega); have hwn : ((wl n : Int) != (cn : Int)) = true := bne_iff_ne.2 (by have h1 := HCM.out; omega); have hnn : ((n : Int) != (n : Int)) = false := by simp
       go_wp2_with (first
        | (replace HC8 := HC8; go_at_call 27; refine (trace_first n _ _ HG8.out HC8.out).mono ?_; rintro e w9 ⟨adT9, cc9, rfl, hT9, hB⟩; have HC9 := sd (Chain.below hB HC8.out); have HG9 := sd (HG8.out.below hB); have HW9 := sd (below_step HW8.out hB); clear hB)
        | (replace HC7 := HC7; go_at_call 27; refine (trace_first n _ _ HG7.out HC7.out).mono ?_; rintro e w8 ⟨adT8, cc8, rfl, hT8, hB⟩; clear hT8; have HC8 := sd (Chain.below hB HC7.out); have HG8 := sd (HG7.out.below hB); have HW8 := sd (below_step HW7.out hB); clear hB)
        | (replace HC6 := HC6; go_at_call 30; refine (place_calls (scrS, (n : Int)) [] 1 _ _ HG6.out HC6.out).mono ?_; rintro e w7 ⟨rfl, hB⟩; have HC7 := sd (Chain.below hB HC6.out); have HG7 := sd (HG6.out.below hB); have HW7 := sd (below_step HW6.out hB); clear hB)
        | (go_at_call 15; refine (kind_calls [(scrS, (n : Int))] 1 _ _ HG5.out HC5.out).mono ?_; rintro e w6b ⟨rfl, hB⟩; have HC6 := sd (Chain.below hB HC5.out); have HG6 := sd (HG5.out.below hB); have HW6 := sd (below_step HW5.out hB); clear hB))
       go_meet
       case rel => exact ⟨by first | rfl | (simp; done) | (simp [*]; done), HW9⟩
    case rest =>
     obtain ⟨rfl, HWn⟩ := hcut; clear HPS HW5 HCM; replace HCO := sd (Kd.C_below HCO.out HWn.out); replace HLX : Aside0 (∀ x ∈ xs, LiesX _ x) := ⟨fun x hx => Lies.below (HLX.out x hx) HWn.out⟩; replace HBe := sd (below_step HBe.out HWn.out); replace HGc := sd (HGc.out.below HWn.out); clear HWn; have hbb := within_bd bad 0 (xs.length : Int) (by omega); obtain ⟨bn, hbn⟩ : ∃ z : Nat, within bad 0 (xs.length : Int) = (z : Int) := ⟨(within bad 0 (xs.length : Int)).toNat, (Int.toNat_of_nonneg hbb.1).symm⟩; rw [hbn] at hbb; have HBB := Lib.hid hbn; clear hbn
     go_upto_region 33 with (go_at_call 24; refine (within_calls bad 0 (xs.length : Int) _ (by omega) (by omega) (by omega)).mono ?_; rintro e w5 ⟨he, rfl⟩; rw [HBB.out] at he; subst he)
     have hbn2 : bn ≤ xs.length := by omega
     obtain ⟨⟨ct, hct⟩, aD, cD, cd, hcd⟩ := cut_rows (P := Tryd.prog) kOp 70 30 Tryd.underlying70 infoOp HCO.out HXC.out bn hbn2; have CT := Lib.hid ct; have CD := Lib.hid cd; have HCT := sd hct; have HCD := sd hcd; have HBN := Lib.hid hbn2; have HX10 := Lib.hid hxs10; clear ct cd hct hcd; have HW := sd (Below.refl wc.heap.size wc)
     go_cut [29] (fun v wx => ∃ aZ cZ, v = .slice aZ (([] ++ xs.take bn ++ [oddX]) ++ xs.drop bn).length cZ ∧ Aside0 (Kd.C kOp wx aZ (([] ++ xs.take bn ++ [oddX]) ++ xs.drop bn).length (([] ++ xs.take bn ++ [oddX]) ++ xs.drop bn)) ∧ Aside0 (Below wc.heap.size wc wx))
     case first =>
      refine reg33 rfl rfl rfl HBN.out HX10.out CT.out HCT.out CD.out HCD.out ?_; intro b0_ g6_ s4_ s7_ s11_ w' R11 HW1; clear HW; have HW := sd HW1; clear HW1; simp only [putSel, if_true, Act.put, List.setIfInBounds_toArray, List.set_cons_zero, List.set_cons_succ]; go_wp2; go_meet
      case rel =>
       obtain ⟨aZ, cZ, rfl, _, hCZ⟩ := Kd.R_reads R11; exact ⟨aZ, cZ, rfl, ⟨hCZ⟩, HW⟩
     case rest =>
      obtain ⟨aZ, cZ, rfl, HCZ, HWn⟩ := hcut; clear CT CD HCT HCD HW; have hzl : (([] ++ xs.take bn ++ [oddX]) ++ xs.drop bn).length = xs.length + 1 := by simp only [List.nil_append, List.length_append, List.length_cons, List.length_nil, List.length_take, List.length_drop]; omega
      have HAB := Lib.hid (fun W h hl => all_bad aZ cZ (([] ++ xs.take bn ++ [oddX]) ++ xs.drop bn) bn W h hl (odd_byt xs bn HOK.out) (odd_right xs bn hbn2 HOK.out) (odd_at xs bn hbn2) (by rw [hzl]; omega) (by rw [hzl]; omega)); have HLZ := sd (odd_lies xs bn (fun x hx => Lies.below (HLX.out x hx) HWn.out)); replace HBe := sd (below_step HBe.out HWn.out); have HG5 := sd (HGc.out.below HWn.out); clear HGc HWn HCO HLX HOK; rw [hzl] at HAB HCZ ⊢; clear hzl; have hbnn : ((bn : Int) == (bn : Int)) = true := by simp
      generalize (([] ++ xs.take bn ++ [oddX]) ++ xs.drop bn) = zs at *
      go_upto_region 35 with (go_at_call 32; refine (HAB.out _ HCZ.out HLZ.out).mono ?_; rintro e w6z ⟨uZ, rfl, hch, hB⟩; obtain ⟨te, ze, rfl⟩ := chain_iface hch; have HC5 := sd (Chain.below (Below.refl _ _) hch); replace HG5 := sd (HG5.out.below hB); have HW5 := sd (below_step HBe.out hB); clear hch hB)
      clear HAB HCZ HLZ
      go_wp2_with (first
       | (replace HX9 := HX9; go_at_call 3; refine (Cr.codeRuns_calls _ HG9.out).mono ?_; rintro e wr9 ⟨rfl, hB⟩; have HWE := sd (below_step HW9.out hB); clear hB)
       | (replace HC8 := HC8; go_at_call 26; refine (same2 AT ccT _ _ w8 hccT hT8 rfl rfl).mono ?_; rintro e ws ⟨rfl, hB⟩; have HG9 := sd ((HG8.out.below (below_alloc (Below.refl _ _) _)).below hB); have HW9 := sd (below_step (below_alloc HW8.out _) hB); have HX9 := sd True.intro; clear hB)
       | (replace HC7 := HC7; go_at_call 27; refine (trace_two bn _ _ HG7.out HC7.out).mono ?_; rintro e w8 ⟨AT, ccT, rfl, hccT, hT8, hB⟩; have HC8 := sd (Chain.below hB HC7.out); have HG8 := sd (HG7.out.below hB); have HW8 := sd (below_step HW7.out hB); clear hB)
       | (replace HC6 := HC6; go_at_call 30; refine (place_calls (scrS, (bn : Int)) [(codS, 0)] 1 _ _ HG6.out HC6.out).mono ?_; rintro e w7 ⟨rfl, hB⟩; have HC7 := sd (Chain.below hB HC6.out); have HG7 := sd (HG6.out.below hB); have HW7 := sd (below_step HW6.out hB); clear hB)
       | (go_at_call 15; refine (kind_calls [(scrS, (bn : Int)), (codS, 0)] 1 _ _ HG5.out HC5.out).mono ?_; rintro e w6b ⟨rfl, hB⟩; have HC6 := sd (Chain.below hB HC5.out); have HG6 := sd (HG5.out.below hB); have HW6 := sd (below_step HW5.out hB); clear hB))
      go_ret; exact ⟨rfl, HWE.out⟩
end Go.Proofs.YtbplemhjhpfkgaaDoor.Cs

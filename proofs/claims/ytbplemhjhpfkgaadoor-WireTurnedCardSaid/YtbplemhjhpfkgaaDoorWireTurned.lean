/-
  WireTurned returns true.
-/
import Derived.Test.YtbplemhjhpfkgaaDoorMsgPure
import Derived.Test.YtbplemhjhpfkgaaDoorWireWrong
import Derived.Test.YtbplemhjhpfkgaaDoorWireRuns
import Derived.Test.YtbplemhjhpfkgaaDoorTrace
import Derived.Test.YtbplemhjhpfkgaaDoorSameStr
namespace Go.Proofs.YtbplemhjhpfkgaaDoor.Wr
open Go.RowKit Go.Proofs.YtbplemhjhpfkgaaDoorW.PrintWords Go.Proofs.YtbplemhjhpfkgaaDoorW.PrintLast Go.Proofs.YtbplemhjhpfkgaaDoorW.PrintMore Go.Proofs.YtbplemhjhpfkgaaDoor.Rd
open Go.Proofs.YtbplemhjhpfkgaaDoor.PCodeKinds
open Go.Proofs.YtbplemhjhpfkgaaDoor.Cd (Co At kCo kAt at_Co at_At nilCo nilAt)
open Go.Proofs.YtbplemhjhpfkgaaDoor.Ft (Door Chain new_chain kind_calls chain_iface)
open Go.Proofs.YtbplemhjhpfkgaaDoor.Cd (Trace_calls kTs)
attribute [local go_sem] max2_int min2_int max_two min_two max_three min_three max_four min_four
set_option linter.unusedVariables false
set_option linter.unusedSimpArgs false
theorem bad_kind {m : MsgD} (h : kindOk m.k = false) : rightM m = false := by simp [rightM, h]
theorem bad_tree {m : MsgD} (h : idOk m.tc m.ts = false) : rightM m = false := by simp [rightM, h]
theorem bad_own {m : MsgD} (h : idOk m.ic m.is = false) : rightM m = false := by simp [rightM, h]
theorem bad_pred {m : MsgD} (h : asksP m.k = false) (hp : m.p ≠ []) : rightM m = false := by simp [rightM, h, hp]
theorem bad_attrs {m : MsgD} (h : asksS m.k = false) (hp : m.s ≠ []) : rightM m = false := by simp [rightM, h, hp]
theorem bad_id {m : MsgD} (h : asksI m.k = false) (hp : m.is ≠ 0) : rightM m = false := by simp [rightM, h, hp]
theorem idOk_c (a b : Int) (h : a < 0 ∨ 32 ≤ a) : idOk a b = false := by
  unfold idOk
  rcases h with h | h
  · rw [decide_eq_false (by omega)]; rfl
  · rw [decide_eq_false (p := a < 32) (by omega)]; simp
theorem idOk_s (a b : Int) (h : b < 0) : idOk a b = false := by
  unfold idOk
  rw [decide_eq_false (p := 0 ≤ b) (by omega)]; simp
theorem kindOk_far (k : Int) (h : 5 < k) : kindOk k = false := decide_eq_false (by omega)
theorem asksS_ne {k : Int} (h : k ≠ 5) : asksS k = false := decide_eq_false h
theorem asksI_lt {k : Int} (h : k < 3) : asksI k = false := decide_eq_false (by omega)
theorem C_str1 {w : World} {g : Nat} {t : TypeId} (s : ByteArray) (h : w.heap[g]? = some (.cells #[.string s] t (0, 0))) : Kd.C Kd.string w (some ⟨g, 0, none⟩) 1 [s] := by
  refine ⟨rfl, by decide, fun _ => ⟨⟨g, 0, none⟩, rfl, fun i y hy => ?_⟩⟩
  obtain ⟨rfl, rfl⟩ : i = 0 ∧ y = s := by
    rcases i with _ | i
    · exact ⟨rfl, (Option.some.inj hy).symm⟩
    · simp at hy
  refine ⟨[.string y], rfl, rfl, fun j u hu => ?_⟩
  rw [add_plain, blk_cell h _]
  simpa using hu
theorem C_co1 {w : World} {g : Nat} {t : TypeId} (x : Co) (h : w.heap[g]? = some (.cells #[.string x.1, .int .i64 x.2.1, .int .i64 x.2.2.1, .int .i64 x.2.2.2.1, .string x.2.2.2.2] t (0, 0))) : Kd.C kCo w (some ⟨g, 0, none⟩) 1 [x] := by
  refine ⟨rfl, by decide, fun _ => ⟨⟨g, 0, none⟩, rfl, fun i y hy => ?_⟩⟩
  obtain ⟨rfl, rfl⟩ : i = 0 ∧ y = x := by
    rcases i with _ | i
    · exact ⟨rfl, (Option.some.inj hy).symm⟩
    · simp at hy
  refine ⟨[.string y.1, .int .i64 y.2.1, .int .i64 y.2.2.1, .int .i64 y.2.2.2.1, .string y.2.2.2.2], rfl, rfl, fun j u hu => ?_⟩
  rw [add_plain, blk_cell h _]
  simpa using hu
theorem C_at1 {w : World} {g : Nat} {t : TypeId} (x : At) (h : w.heap[g]? = some (.cells #[.string x.1, .bool x.2.1, .int .i64 x.2.2.1, .string x.2.2.2] t (0, 0))) : Kd.C kAt w (some ⟨g, 0, none⟩) 1 [x] := by
  refine ⟨rfl, by decide, fun _ => ⟨⟨g, 0, none⟩, rfl, fun i y hy => ?_⟩⟩
  obtain ⟨rfl, rfl⟩ : i = 0 ∧ y = x := by
    rcases i with _ | i
    · exact ⟨rfl, (Option.some.inj hy).symm⟩
    · simp at hy
  refine ⟨[.string y.1, .bool y.2.1, .int .i64 y.2.2.1, .string y.2.2.2], rfl, rfl, fun j u hu => ?_⟩
  rw [add_plain, blk_cell h _]
  simpa using hu
theorem trace1 (u : Value) (w : World) (hg : Door w) (hc : Chain w [(wireS, 0)] 1 u) : Calls Tryd.prog 27 #[u] w fun e w' => ∃ (A : Option Addr) (cc : Nat), e = .returned (.slice A 1 cc) ∧ 1 ≤ cc ∧ Kd.C Kd.string w' A 1 [wireS] ∧ Below w.heap.size w w' := by
  refine (Trace_calls [(wireS, 0)] 1 u w hg hc (by decide)).mono ?_
  rintro e w' ⟨A, cc, rfl, hR, hB⟩
  obtain ⟨hn, _, hC⟩ := Kd.R_reads' hR
  obtain ⟨A2, c2, he, hc2, _⟩ := Kd.R_reads hR
  cases he
  exact ⟨A, cc, rfl, hc2, hC, hB⟩
theorem same1 (A B : Option Addr) (c d : Nat) (w : World) (h1 : Kd.C Kd.string w A 1 [wireS]) (hc : 1 ≤ c) (h2 : Kd.C Kd.string w B 1 [wireS]) (hd : 1 ≤ d) : Calls Tryd.prog 26 #[.slice A 1 c, .slice B 1 d] w fun e w' => e = .returned (.bool true) ∧ Drawn0 w w' :=
  broadsidebook_Same_string.calls 3 A c [wireS] B d [wireS] true w h1 hc h2 hd (by kernel_rfl)
abbrev mC (k tc ts ic is : Int) (D5 : Option Addr) (n5 m5 : Nat) (D6 : Option Addr) (n6 m6 : Nat) : Array Value := #[.int .i64 k, .int .i64 tc, .int .i64 ts, .int .i64 ic, .int .i64 is, .slice D5 n5 m5, .slice D6 n6 m6]
set_option maxRecDepth 100000 in
set_option maxHeartbeats 16000000 in
theorem wireTurned_calls (a0 a1 a2 a3 a4 : Int) (A5 : Option Addr) (c5 : Nat) (l5 : List Int) (A6 : Option Addr) (c6 : Nat) (l6 : List Int) (A7 : Option Addr) (c7 : Nat) (l7 : List Int) (A8 : Option Addr) (c8 : Nat) (l8 : List Int) (what n : Int) (w : World) (hg : Door w)
    (h5 : Kd.C (Kd.int .i64) w A5 l5.length l5) (k5 : l5.length ≤ c5) (h6 : Kd.C (Kd.int .i64) w A6 l6.length l6) (k6 : l6.length ≤ c6) (h7 : Kd.C (Kd.int .i64) w A7 l7.length l7) (k7 : l7.length ≤ c7) (h8 : Kd.C (Kd.int .i64) w A8 l8.length l8) (k8 : l8.length ≤ c8) :
    Calls Tryd.prog 6 #[.agg #[.int .i64 a0, .int .i64 a1, .int .i64 a2, .int .i64 a3, .int .i64 a4, .slice A5 l5.length c5, .slice A6 l6.length c6, .slice A7 l7.length c7, .slice A8 l8.length c8], .int .i64 what, .int .i64 n] w fun e w' => e = .returned (.bool true) ∧ Below w.heap.size w w' := by
  have HG := Aside0.mk hg
  have H5 := Aside0.mk h5
  have H6 := Aside0.mk h6
  have H7 := Aside0.mk h7
  have H8 := Aside0.mk h8
  have K5 := Aside0.mk k5
  have K6 := Aside0.mk k6
  have K7 := Aside0.mk k7
  have K8 := Aside0.mk k8
  clear hg h5 h6 h7 h8 k5 k6 k7 k8
  obtain ⟨r1, e1, r10, r11⟩ := within_far n 1099511627776 (by omega) (by omega)
  obtain ⟨r2, e2, r20, r21⟩ := within_far what 5 (by omega) (by omega)
  have E1 := Lib.hid e1
  have E2 := Lib.hid e2
  clear e1 e2
  obtain ⟨b, hb⟩ : ∃ b, IntKind.i64.wrap (1 + r1) = b := ⟨_, rfl⟩
  have hb2 : b = 1 + r1 := by rw [← hb, i64_w]; exact wr_id (by omega) (by omega)
  have HBB : Hid (1 ≤ b ∧ b ≤ 1099511627777) := Lib.hid (by omega)
  clear hb2
  have HX := Aside0.mk (blk_new w (.cells #[.int .i64 a0, .int .i64 a1, .int .i64 a2, .int .i64 a3, .int .i64 a4, .slice A5 l5.length c5, .slice A6 l6.length c6, .slice A7 l7.length c7, .slice A8 l8.length c8] 53))
  have HB := Aside0.mk (below_alloc (Below.refl w.heap.size w) (.cells #[.int .i64 a0, .int .i64 a1, .int .i64 a2, .int .i64 a3, .int .i64 a4, .slice A5 l5.length c5, .slice A6 l6.length c6, .slice A7 l7.length c7, .slice A8 l8.length c8] 53))
  go_enter Tryd.func6, Tryd.ntmps6
  go_upto_block 0 with (first
    | (go_at_call 23; refine (msg_calls a0 a1 a2 a3 a4 A5 c5 l5 A6 c6 l6 A7 c7 l7 A8 c8 l8 _ (Kd.C_below H5.out HB.out) K5.out (Kd.C_below H6.out HB.out) K6.out (Kd.C_below H7.out HB.out) K7.out (Kd.C_below H8.out HB.out) K8.out).mono ?_; rintro e w1 ⟨m, D5, m5, D6, m6, rfl, hL, hm5, hm6, hr, hs, _, _, hB⟩; obtain ⟨k, tc, ts, ic, is, p, s⟩ := m; have HL := Aside0.mk hL; have HM5 := Lib.hid hm5; have HM6 := Lib.hid hm6; have HR := Lib.hid hr; have HS := Aside0.mk hs; have HM := Aside0.mk (blk_new w1 (.cells #[.int .i64 k, .int .i64 tc, .int .i64 ts, .int .i64 ic, .int .i64 is, .slice D5 p.length m5, .slice D6 s.length m6] 50)); have HB1 := Aside0.mk (below_alloc (Below.refl w1.heap.size w1) (.cells #[.int .i64 k, .int .i64 tc, .int .i64 ts, .int .i64 ic, .int .i64 is, .slice D5 p.length m5, .slice D6 s.length m6] 50)); replace HB := Aside0.mk (below_step HB.out hB); clear hL hm5 hm6 hr hs hB)
    | (go_at_call 24; with_reducible refine (broadsidebook_Within.calls n 0 1099511627776 r1 _ E1.out).mono ?_; rintro e w2 ⟨rfl, d1, rfl⟩)
    | (go_at_call 24; with_reducible refine (broadsidebook_Within.calls what 0 5 r2 _ E2.out).mono ?_; rintro e w3 ⟨rfl, d2, rfl⟩))
  have HMb := Aside0.mk (blk_drewN HM.out (d1 + d2))
  have HW := Aside0.mk (by repeat (first | exact HB1.out | apply pw_below_drewN) : Below w1.heap.size w1 ((w1.alloc (.cells #[.int .i64 k, .int .i64 tc, .int .i64 ts, .int .i64 ic, .int .i64 is, .slice D5 p.length m5, .slice D6 s.length m6] 50)).drewN (d1 + d2)))
  generalize (w1.alloc (.cells #[.int .i64 k, .int .i64 tc, .int .i64 ts, .int .i64 ic, .int .i64 is, .slice D5 p.length m5, .slice D6 s.length m6] 50)).drewN (d1 + d2) = wb at *
  clear HM HB1 HX
  go_cut [7] (fun v wx => ∃ (m' : MsgD) (E5 : Option Addr) (n5 : Nat) (E6 : Option Addr) (n6 : Nat), v = .pointer (some ⟨w1.heap.size, 0, none⟩) ∧ Aside0 (wx.heap[w1.heap.size]? = some (.cells #[.int .i64 m'.k, .int .i64 m'.tc, .int .i64 m'.ts, .int .i64 m'.ic, .int .i64 m'.is, .slice E5 m'.p.length n5, .slice E6 m'.s.length n6] 50 (0, 0))) ∧ Aside0 (LiesM wx m' E5 E6) ∧ Hid (rightM m' = false) ∧ Aside0 (SmM m') ∧ Aside0 (Below w1.heap.size w1 wx))
  case first =>
    have hl := blk_lt HMb.out
    have q0 := (blk_cell HMb.out 0).trans (rfl : _ = some (Value.int .i64 k))
    have f0 := blk_frozen HMb.out 0
    have q1 := (blk_cell HMb.out 1).trans (rfl : _ = some (Value.int .i64 tc))
    have f1 := blk_frozen HMb.out 1
    have q2 := (blk_cell HMb.out 2).trans (rfl : _ = some (Value.int .i64 ts))
    have f2 := blk_frozen HMb.out 2
    have q3 := (blk_cell HMb.out 3).trans (rfl : _ = some (Value.int .i64 ic))
    have f3 := blk_frozen HMb.out 3
    have q4 := (blk_cell HMb.out 4).trans (rfl : _ = some (Value.int .i64 is))
    have f4 := blk_frozen HMb.out 4
    have q5 := (blk_cell HMb.out 5).trans (rfl : _ = some (Value.slice D5 p.length m5))
    have f5 := blk_frozen HMb.out 5
    have q6 := (blk_cell HMb.out 6).trans (rfl : _ = some (Value.slice D6 s.length m6))
    have f6 := blk_frozen HMb.out 6
    obtain rfl | rfl | rfl | rfl | rfl | rfl : r2 = 0 ∨ r2 = 1 ∨ r2 = 2 ∨ r2 = 3 ∨ r2 = 4 ∨ r2 = 5 := by omega
    · obtain ⟨x, hx⟩ : ∃ x, IntKind.i64.wrap (5 + b) = x := ⟨_, rfl⟩
      have HXX : Hid (x = 5 + b) := Lib.hid (by have := HBB.out; rw [← hx, i64_w]; exact wr_id (by omega) (by omega))
      go_wp2
      go_meet
      case rel => exact ⟨⟨x, tc, ts, ic, is, p, s⟩, D5, m5, D6, m6, rfl, ⟨blk_put HMb.out 0 (.int .i64 x) rfl⟩, ⟨⟨Kd.C_below HL.out.p (below_set HW.out (Nat.le_refl _)), Kd.C_below HL.out.s (below_set HW.out (Nat.le_refl _))⟩⟩, Lib.hid (bad_kind (kindOk_far x (by have := HXX.out; have := HBB.out; omega))), ⟨⟨HS.out.p, HS.out.s⟩⟩, ⟨below_set HW.out (Nat.le_refl _)⟩⟩
    · obtain ⟨x, hx⟩ : ∃ x, IntKind.i64.wrap (-b) = x := ⟨_, rfl⟩
      have HXX : Hid (x = -b) := Lib.hid (by have := HBB.out; rw [← hx, i64_w]; exact wr_id (by omega) (by omega))
      go_wp2
      go_meet
      case rel => exact ⟨⟨k, x, ts, ic, is, p, s⟩, D5, m5, D6, m6, rfl, ⟨blk_put HMb.out 1 (.int .i64 x) rfl⟩, ⟨⟨Kd.C_below HL.out.p (below_set HW.out (Nat.le_refl _)), Kd.C_below HL.out.s (below_set HW.out (Nat.le_refl _))⟩⟩, Lib.hid (bad_tree (idOk_c x ts (by have := HXX.out; have := HBB.out; omega))), ⟨⟨HS.out.p, HS.out.s⟩⟩, ⟨below_set HW.out (Nat.le_refl _)⟩⟩
    · obtain ⟨x, hx⟩ : ∃ x, IntKind.i64.wrap (31 + b) = x := ⟨_, rfl⟩
      have HXX : Hid (x = 31 + b) := Lib.hid (by have := HBB.out; rw [← hx, i64_w]; exact wr_id (by omega) (by omega))
      go_wp2
      go_meet
      case rel => exact ⟨⟨k, x, ts, ic, is, p, s⟩, D5, m5, D6, m6, rfl, ⟨blk_put HMb.out 1 (.int .i64 x) rfl⟩, ⟨⟨Kd.C_below HL.out.p (below_set HW.out (Nat.le_refl _)), Kd.C_below HL.out.s (below_set HW.out (Nat.le_refl _))⟩⟩, Lib.hid (bad_tree (idOk_c x ts (by have := HXX.out; have := HBB.out; omega))), ⟨⟨HS.out.p, HS.out.s⟩⟩, ⟨below_set HW.out (Nat.le_refl _)⟩⟩
    · obtain ⟨x, hx⟩ : ∃ x, IntKind.i64.wrap (-b) = x := ⟨_, rfl⟩
      have HXX : Hid (x = -b) := Lib.hid (by have := HBB.out; rw [← hx, i64_w]; exact wr_id (by omega) (by omega))
      go_wp2
      go_meet
      case rel => exact ⟨⟨k, tc, x, ic, is, p, s⟩, D5, m5, D6, m6, rfl, ⟨blk_put HMb.out 2 (.int .i64 x) rfl⟩, ⟨⟨Kd.C_below HL.out.p (below_set HW.out (Nat.le_refl _)), Kd.C_below HL.out.s (below_set HW.out (Nat.le_refl _))⟩⟩, Lib.hid (bad_tree (idOk_s tc x (by have := HXX.out; have := HBB.out; omega))), ⟨⟨HS.out.p, HS.out.s⟩⟩, ⟨below_set HW.out (Nat.le_refl _)⟩⟩
    · by_cases h5 : k = 5
      · subst h5
        go_wp2
        go_meet
        case rel =>
          have hbb : Below w1.heap.size w1 ((wb.setCell ⟨w1.heap.size, 5, none⟩ (.slice (some ⟨wb.heap.size, 0, none⟩) 1 1)).alloc (.cells #[.string ⟨#[97]⟩, .int .i64 3, .int .i64 0, .int .i64 0, .string ⟨#[]⟩] 44)) := below_alloc (below_set HW.out (Nat.le_refl _)) _
          have hnew := blk_new (wb.setCell ⟨w1.heap.size, 5, none⟩ (.slice (some ⟨wb.heap.size, 0, none⟩) 1 1)) (.cells #[.string ⟨#[97]⟩, .int .i64 3, .int .i64 0, .int .i64 0, .string ⟨#[]⟩] 44)
          rw [show (wb.setCell ⟨w1.heap.size, 5, none⟩ (.slice (some ⟨wb.heap.size, 0, none⟩) 1 1)).heap.size = wb.heap.size by simp] at hnew
          exact ⟨⟨5, tc, ts, ic, is, [(⟨#[97]⟩, 3, 0, 0, ⟨#[]⟩)], s⟩, some ⟨wb.heap.size, 0, none⟩, 1, D6, m6, rfl, ⟨blk_alloc (blk_put HMb.out 5 (.slice (some ⟨wb.heap.size, 0, none⟩) 1 1) rfl) _⟩, ⟨⟨C_co1 _ hnew, Kd.C_below HL.out.s hbb⟩⟩, Lib.hid (bad_pred rfl (by simp)), ⟨⟨fun y hy => by obtain rfl := List.mem_singleton.1 hy; show (1 : Nat) ≤ 4611686018427387904; decide, HS.out.s⟩⟩, ⟨hbb⟩⟩
      · have hk5 : (k == 5) = false := by simp [h5]
        have H5n := Lib.hid h5
        go_wp2
        go_meet
        case rel =>
          have hbb : Below w1.heap.size w1 ((wb.setCell ⟨w1.heap.size, 6, none⟩ (.slice (some ⟨wb.heap.size, 0, none⟩) 1 1)).alloc (.cells #[.string ⟨#[97]⟩, .bool false, .int .i64 0, .string ⟨#[]⟩] 59)) := below_alloc (below_set HW.out (Nat.le_refl _)) _
          have hnew := blk_new (wb.setCell ⟨w1.heap.size, 6, none⟩ (.slice (some ⟨wb.heap.size, 0, none⟩) 1 1)) (.cells #[.string ⟨#[97]⟩, .bool false, .int .i64 0, .string ⟨#[]⟩] 59)
          rw [show (wb.setCell ⟨w1.heap.size, 6, none⟩ (.slice (some ⟨wb.heap.size, 0, none⟩) 1 1)).heap.size = wb.heap.size by simp] at hnew
          exact ⟨⟨k, tc, ts, ic, is, p, [(⟨#[97]⟩, false, 0, ⟨#[]⟩)]⟩, D5, m5, some ⟨wb.heap.size, 0, none⟩, 1, rfl, ⟨blk_alloc (blk_put HMb.out 6 (.slice (some ⟨wb.heap.size, 0, none⟩) 1 1) rfl) _⟩, ⟨⟨Kd.C_below HL.out.p hbb, C_at1 _ hnew⟩⟩, Lib.hid (bad_attrs (asksS_ne H5n.out) (by simp)), ⟨⟨HS.out.p, fun y hy => by obtain rfl := List.mem_singleton.1 hy; show (1 : Nat) ≤ 4611686018427387904; decide⟩⟩, ⟨hbb⟩⟩
    · by_cases h3 : 3 ≤ k
      · have hk3 : decide (3 ≤ k) = true := decide_eq_true h3
        obtain ⟨x, hx⟩ : ∃ x, IntKind.i64.wrap (-b) = x := ⟨_, rfl⟩
        have HXX : Hid (x = -b) := Lib.hid (by have := HBB.out; rw [← hx, i64_w]; exact wr_id (by omega) (by omega))
        go_wp2
        go_meet
        case rel => exact ⟨⟨k, tc, ts, ic, x, p, s⟩, D5, m5, D6, m6, rfl, ⟨blk_put HMb.out 4 (.int .i64 x) rfl⟩, ⟨⟨Kd.C_below HL.out.p (below_set HW.out (Nat.le_refl _)), Kd.C_below HL.out.s (below_set HW.out (Nat.le_refl _))⟩⟩, Lib.hid (bad_own (idOk_s ic x (by have := HXX.out; have := HBB.out; omega))), ⟨⟨HS.out.p, HS.out.s⟩⟩, ⟨below_set HW.out (Nat.le_refl _)⟩⟩
      · have hk3 : decide (3 ≤ k) = false := decide_eq_false h3
        go_wp2
        go_meet
        case rel => exact ⟨⟨k, tc, ts, ic, b, p, s⟩, D5, m5, D6, m6, rfl, ⟨blk_put HMb.out 4 (.int .i64 b) rfl⟩, ⟨⟨Kd.C_below HL.out.p (below_set HW.out (Nat.le_refl _)), Kd.C_below HL.out.s (below_set HW.out (Nat.le_refl _))⟩⟩, Lib.hid (bad_id (asksI_lt (by show k < 3; omega)) (by show b ≠ 0; have := HBB.out; omega)), ⟨⟨HS.out.p, HS.out.s⟩⟩, ⟨below_set HW.out (Nat.le_refl _)⟩⟩
  case rest =>
    obtain ⟨⟨k', tc', ts', ic', is', p', s'⟩, E5, n5, E6, n6, rfl, HC, HLx, HRx, HSx, HWx⟩ := hcut
    replace HC := Aside0.mk (show wc.heap[w1.heap.size]? = some (.cells #[.int .i64 k', .int .i64 tc', .int .i64 ts', .int .i64 ic', .int .i64 is', .slice E5 p'.length n5, .slice E6 s'.length n6] 50 (0, 0)) from HC.out)
    replace HB := Aside0.mk (below_step HB.out HWx.out)
    clear HW HMb HL HS HR HM5 HM6 HWx
    have q0 := blk_cell HC.out 0
    have q1 := blk_cell HC.out 1
    have q2 := blk_cell HC.out 2
    have q3 := blk_cell HC.out 3
    have q4 := blk_cell HC.out 4
    have q5 := blk_cell HC.out 5
    have q6 := blk_cell HC.out 6
    go_wp2_with (first
      | (replace HZ7 := HZ7; go_at_call 5; refine (wireRuns_calls _ (HG.out.below (by repeat (first | exact HB.out | apply pw_below_drewN)))).mono ?_; rintro e w9 ⟨rfl, hB⟩; replace HB := Aside0.mk (below_step (by repeat (first | exact HB.out | apply pw_below_drewN)) hB); clear hB)
      | (replace HZ7 := HZ7; go_at_call 26; refine (same1 _ _ _ _ _ HTr.out hct HSl.out (Nat.le_refl 1)).mono ?_; rintro e w8 ⟨rfl, d8, rfl⟩)
      | (go_at_call 27; refine (trace1 _ _ (HG.out.below HB.out) HCH.out).mono ?_; rintro e w7 ⟨At_, ct, rfl, hct, hCt, hB⟩; have HZ7 := Aside0.mk True.intro; have HTr := Aside0.mk (Kd.C_below hCt (below_alloc (Below.refl _ _) (.cells #[.string wireS] 9))); have HSl := Aside0.mk (C_str1 _ (blk_new w7 (.cells #[.string wireS] 9))); replace HB := Aside0.mk (below_alloc (below_step HB.out hB) (.cells #[.string wireS] 9)); clear hB hCt)
      | (go_at_call 15; refine (kind_calls _ _ _ _ (HG.out.below HB.out) HCH.out).mono ?_; rintro e w6 ⟨rfl, hB⟩; replace HCH := Aside0.mk (Go.Proofs.YtbplemhjhpfkgaaDoor.Ft.Chain.below hB HCH.out); replace HB := Aside0.mk (below_step HB.out hB); clear hB)
      | (go_at_call 25; refine (right_calls ⟨k', tc', ts', ic', is', p', s'⟩ E5 n5 E6 n6 _ HLx.out HSx.out).mono ?_; rintro e w5 ⟨he, hB⟩; rw [HRx.out] at he; subst he; replace HCH := Aside0.mk (Go.Proofs.YtbplemhjhpfkgaaDoor.Ft.Chain.below hB HCH.out); replace HB := Aside0.mk (below_step HB.out hB); clear hB)
      | (go_at_call 21; refine (enc_wrong ⟨k', tc', ts', ic', is', p', s'⟩ E5 n5 E6 n6 _ HLx.out HSx.out HRx.out).mono ?_; rintro e w4 ⟨u, rfl, hc, hB⟩; have HCH := Aside0.mk hc; replace HC := Aside0.mk (blk_below HC.out hB); have q0 := blk_cell HC.out 0; have q1 := blk_cell HC.out 1; have q2 := blk_cell HC.out 2; have q3 := blk_cell HC.out 3; have q4 := blk_cell HC.out 4; have q5 := blk_cell HC.out 5; have q6 := blk_cell HC.out 6; have hlc := blk_lt HC.out; replace HLx := Aside0.mk (LiesM.below HLx.out hB); replace HB := Aside0.mk (below_step HB.out hB); clear hB hc))
    go_ret
    exact ⟨rfl, HB.out⟩
end Go.Proofs.YtbplemhjhpfkgaaDoor.Wr

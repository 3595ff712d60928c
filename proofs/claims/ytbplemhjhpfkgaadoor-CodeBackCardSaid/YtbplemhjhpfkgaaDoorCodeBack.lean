/-
  CodeBack returns true.
-/
import Derived.Test.YtbplemhjhpfkgaaDoorBackBase
import Derived.Test.YtbplemhjhpfkgaaDoorCodeRuns
namespace Go.Proofs.YtbplemhjhpfkgaaDoor.Cd
open Go.RowKit Go.Proofs.YtbplemhjhpfkgaaDoorW.PrintWords Go.Proofs.YtbplemhjhpfkgaaDoorW.PrintLast Go.Proofs.YtbplemhjhpfkgaaDoorW.PrintMore Go.Proofs.YtbplemhjhpfkgaaDoor.Rd
open Go.Proofs.YtbplemhjhpfkgaaDoor.Ft (Door Chain new_chain kind_calls place_calls chain_iface)
set_option linter.unusedVariables false
set_option linter.unusedSimpArgs false
theorem nine {W : World} {g : Nat} {t : TypeId} {c0 c1 c2 c3 c4 c5 c6 c7 c8 : Value} (h : W.heap[g]? = some (.cells #[c0, c1, c2, c3, c4, c5, c6, c7, c8] t (0, 0))) : W.cell? ⟨g, 0, none⟩ = some c0 ∧ W.cell? ⟨g, 1, none⟩ = some c1 ∧ W.cell? ⟨g, 2, none⟩ = some c2 ∧ W.cell? ⟨g, 3, none⟩ = some c3 ∧ W.cell? ⟨g, 4, none⟩ = some c4 ∧ W.cell? ⟨g, 5, none⟩ = some c5 ∧ W.cell? ⟨g, 6, none⟩ = some c6 ∧ W.cell? ⟨g, 7, none⟩ = some c7 ∧ W.cell? ⟨g, 8, none⟩ = some c8 :=
  ⟨(blk_cell h 0).trans rfl, (blk_cell h 1).trans rfl, (blk_cell h 2).trans rfl, (blk_cell h 3).trans rfl, (blk_cell h 4).trans rfl, (blk_cell h 5).trans rfl, (blk_cell h 6).trans rfl, (blk_cell h 7).trans rfl, (blk_cell h 8).trans rfl⟩
theorem nineF {W : World} {g : Nat} {t : TypeId} {cs : Array Value} (h : W.heap[g]? = some (.cells cs t (0, 0))) : W.frozen? ⟨g, 0, none⟩ = false ∧ W.frozen? ⟨g, 1, none⟩ = false ∧ W.frozen? ⟨g, 2, none⟩ = false ∧ W.frozen? ⟨g, 3, none⟩ = false ∧ W.frozen? ⟨g, 4, none⟩ = false ∧ W.frozen? ⟨g, 5, none⟩ = false ∧ W.frozen? ⟨g, 6, none⟩ = false ∧ W.frozen? ⟨g, 7, none⟩ = false ∧ W.frozen? ⟨g, 8, none⟩ = false :=
  ⟨blk_frozen h 0, blk_frozen h 1, blk_frozen h 2, blk_frozen h 3, blk_frozen h 4, blk_frozen h 5, blk_frozen h 6, blk_frozen h 7, blk_frozen h 8⟩
theorem oBy_R {o : OpD} {pb : List Int} {v : Value} {w : World} {base : Nat} (h : Kd.R (Kd.int .u8) 5 w base (fun _ => True) v (opB o.k o.c o.q o.h o.a o.t o.p o.s o.r)) (e : oBy o = pb) : Kd.R (Kd.int .u8) 5 w base (fun _ => True) v pb := by rw [← e]; exact h
theorem off_askd {row : Option Nat} {o : OpD} {A6 A7 A8 B6 B7 B8 : Option Addr} {m6 m7 m8 n6 n7 n8 : Nat} (h : OffX row ((o, (A6, m6), (A7, m7), (A8, m8)) : OpX)) (hq : (B6 = A6 ∨ B6 = none) ∧ (B7 = A7 ∨ B7 = none) ∧ (B8 = A8 ∨ B8 = none)) : OffX row ((askd o, (B6, n6), (B7, n7), (B8, n8)) : OpX) := by
  obtain ⟨h1, h2, h3, _⟩ := askd_parts o
  obtain ⟨q1, q2, q3⟩ := hq
  refine ⟨fun ad e hn => ?_, fun ad e hn => ?_, fun ad e hn => ?_⟩
  · have e' : B6 = some ad := e
    have hn' : 0 < (askd o).p.length := hn
    rcases q1 with q | q
    · rcases h1 with e2 | e2
      · rw [e2] at hn'; exact h.1 ad (q ▸ e') hn'
      · rw [e2] at hn'; simp at hn'
    · rw [q] at e'; cases e'
  · have e' : B7 = some ad := e
    have hn' : 0 < (askd o).s.length := hn
    rcases q2 with q | q
    · rcases h2 with e2 | e2
      · rw [e2] at hn'; exact h.2.1 ad (q ▸ e') hn'
      · rw [e2] at hn'; simp at hn'
    · rw [q] at e'; cases e'
  · have e' : B8 = some ad := e
    have hn' : 0 < (askd o).r.length := hn
    rcases q3 with q | q
    · rcases h3 with e2 | e2
      · rw [e2] at hn'; exact h.2.2 ad (q ▸ e') hn'
      · rw [e2] at hn'; simp at hn'
    · rw [q] at e'; cases e'
def bk1Reg.T1 : Bool × List (List Nat × List Nat) := (true, [([], []), ([0], [0]), ([], []), ([2, 1], [2]), ([], []), ([], []), ([4, 1, 3, 0, 1, 4, 5], [1, 4]), ([5, 3, 6, 0, 1, 2, 3, 4, 5, 6], [3, 5])])
def bk1Reg.B1 : List Nat := [0, 1, 0, 7, 0, 0, 63, 127]
theorem bk1Reg.tab1 : rtab .any (opsOf Tryd.f7 1) = bk1Reg.T1 := by kernel_rfl
theorem bk1Reg.bits1 : waitsOk bk1Reg.T1.2 bk1Reg.B1 = true := by kernel_rfl
def bk3Reg.T3 : Bool × List (List Nat × List Nat) := (true, [([], []), ([0], [0]), ([], []), ([2, 1], [2]), ([1, 3, 0, 1], [1]), ([3, 4, 0, 1, 2, 3, 4], [3])])
def bk3Reg.B3 : List Nat := [0, 1, 0, 7, 15, 31]
theorem bk3Reg.tab3 : rtab .any (opsOf Tryd.f7 3) = bk3Reg.T3 := by kernel_rfl
theorem bk3Reg.bits3 : waitsOk bk3Reg.T3.2 bk3Reg.B3 = true := by kernel_rfl
def bk4Reg.T4 : Bool × List (List Nat × List Nat) := (true, [([], []), ([0], [0]), ([1], [1]), ([2], [2]), ([3], [3]), ([4, 3], [3, 4]), ([5, 3], [3, 5]), ([3, 6], [3, 6]), ([7, 3], [7]), ([8], [8]), ([8], [8]), ([10, 8, 8], [8, 10]), ([9, 11, 11, 8], [8, 9, 11]), ([8, 12], [8, 12]), ([13, 12, 0, 1, 2, 3, 4, 5, 6, 7, 8, 9, 10, 11, 12, 13], [13])])
def bk4Reg.B4 : List Nat := [0, 1, 3, 7, 15, 31, 63, 127, 255, 511, 511, 1535, 4095, 8191, 16383]
theorem bk4Reg.tab4 : rtab .any (opsOf Tryd.f7 4) = bk4Reg.T4 := by kernel_rfl
theorem bk4Reg.bits4 : waitsOk bk4Reg.T4.2 bk4Reg.B4 = true := by kernel_rfl
def bk12false.T12 : Bool × List (List Nat × List Nat) := (true, [([], []), ([0], [0]), ([], []), ([1, 2], [1, 2]), ([3, 1], [3]), ([4], [4]), ([5, 4], [4, 5]), ([4], [4]), ([6, 7, 4], [4, 6, 7]), ([4, 8], [4, 8]), ([9, 4], [9]), ([10], [10]), ([10], [10]), ([11, 12, 10, 10], [10, 11, 12]), ([13, 10], [10, 13]), ([10, 14], [10, 14]), ([15, 13], [15]), ([16], [16]), ([16], [16]), ([17, 18, 16, 16], [16, 17, 18]), ([16], [16]), ([16], [16]), ([20, 21, 19, 16], [16, 20, 21]), ([19, 22, 16], [16, 19, 22]), ([16, 23], [16, 23])])
def bk12false.B12 : List Nat := [0, 1, 0, 7, 15, 31, 63, 31, 255, 511, 1023, 2047, 2047, 8191, 16383, 32767, 65535, 131071, 131071, 524287, 131071, 131071, 4194303, 8388607, 16777215]
theorem bk12false.tab12 : rtab .any (opsOf Tryd.f7 12) = bk12false.T12 := by kernel_rfl
theorem bk12false.bits12 : waitsOk bk12false.T12.2 bk12false.B12 = true := by kernel_rfl
def bk12true.T12 : Bool × List (List Nat × List Nat) := (true, [([], []), ([0], [0]), ([], []), ([1, 2], [1, 2]), ([3, 1], [3]), ([4], [4]), ([5, 4], [4, 5]), ([4], [4]), ([6, 7, 4], [4, 6, 7]), ([4, 8], [4, 8]), ([9, 4], [9]), ([10], [10]), ([10], [10]), ([11, 12, 10, 10], [10, 11, 12]), ([13, 10], [10, 13]), ([10, 14], [10, 14]), ([15, 13], [15]), ([16], [16]), ([16], [16]), ([17, 18, 16, 16], [16, 17, 18]), ([16], [16]), ([16], [16]), ([20, 21, 19, 16], [16, 20, 21]), ([19, 22, 16], [16, 19, 22]), ([16, 23], [16, 23])])
def bk12true.B12 : List Nat := [0, 1, 0, 7, 15, 31, 63, 31, 255, 511, 1023, 2047, 2047, 8191, 16383, 32767, 65535, 131071, 131071, 524287, 131071, 131071, 4194303, 8388607, 16777215]
theorem bk12true.tab12 : rtab .any (opsOf Tryd.f7 12) = bk12true.T12 := by kernel_rfl
theorem bk12true.bits12 : waitsOk bk12true.T12.2 bk12true.B12 = true := by kernel_rfl
def bk17false.T17 : Bool × List (List Nat × List Nat) := (true, [([], []), ([0], [0]), ([1], [1]), ([2], [2]), ([2], [2]), ([3, 4, 2, 2], [2, 3, 4]), ([2, 5], [2, 5]), ([6, 5], [6]), ([7], [7]), ([8, 7], [7, 8]), ([9, 7, 7], [7, 9]), ([10], [10]), ([10], [10]), ([11, 12, 10, 10], [10, 11, 12]), ([10], [10]), ([10], [10]), ([14, 15, 13, 10], [10, 14, 15]), ([13, 16, 10], [10, 13, 16]), ([10, 17, 7], [7, 10, 17]), ([7, 18], [7, 18]), ([19, 16], [19]), ([20, 20], [20]), ([20, 21], [20, 21]), ([22, 21, 0, 1, 2, 3, 4, 5, 6, 7, 8, 9, 10, 11, 12, 13, 14, 15, 16, 17, 18, 19, 20, 21, 22], [22])])
def bk17false.B17 : List Nat := [0, 1, 3, 7, 7, 31, 63, 127, 255, 511, 1023, 2047, 2047, 8191, 2047, 2047, 65535, 131071, 262143, 524287, 1048575, 2097151, 4194303, 8388607]
theorem bk17false.tab17 : rtab .any (opsOf Tryd.f7 17) = bk17false.T17 := by kernel_rfl
theorem bk17false.bits17 : waitsOk bk17false.T17.2 bk17false.B17 = true := by kernel_rfl
def bk17true.T17 : Bool × List (List Nat × List Nat) := (true, [([], []), ([0], [0]), ([1], [1]), ([2], [2]), ([2], [2]), ([3, 4, 2, 2], [2, 3, 4]), ([2, 5], [2, 5]), ([6, 5], [6]), ([7], [7]), ([8, 7], [7, 8]), ([9, 7, 7], [7, 9]), ([10], [10]), ([10], [10]), ([11, 12, 10, 10], [10, 11, 12]), ([10], [10]), ([10], [10]), ([14, 15, 13, 10], [10, 14, 15]), ([13, 16, 10], [10, 13, 16]), ([10, 17, 7], [7, 10, 17]), ([7, 18], [7, 18]), ([19, 16], [19]), ([20, 20], [20]), ([20, 21], [20, 21]), ([22, 21, 0, 1, 2, 3, 4, 5, 6, 7, 8, 9, 10, 11, 12, 13, 14, 15, 16, 17, 18, 19, 20, 21, 22], [22])])
def bk17true.B17 : List Nat := [0, 1, 3, 7, 7, 31, 63, 127, 255, 511, 1023, 2047, 2047, 8191, 2047, 2047, 65535, 131071, 262143, 524287, 1048575, 2097151, 4194303, 8388607]
theorem bk17true.tab17 : rtab .any (opsOf Tryd.f7 17) = bk17true.T17 := by kernel_rfl
theorem bk17true.bits17 : waitsOk bk17true.T17.2 bk17true.B17 = true := by kernel_rfl
set_option maxRecDepth 100000 in
set_option maxHeartbeats 16000000 in
theorem codeBack_calls (a b : OpX) (plain : Bool) (w : World) (hg : Door w) (ha : OpIn w a) (hb : OpIn w b) :
    Calls Tryd.prog 7 #[oX a, oX b, .bool plain] w fun e w' => e = .returned (.bool true) ∧ Below w.heap.size w w' := by
  obtain ⟨⟨ak, ac, aq, ah, aa, aj, ap, ad, ar⟩, ⟨A6, am6⟩, ⟨A7, am7⟩, ⟨A8, am8⟩⟩ := a
  obtain ⟨⟨bk, bc, bq, bh, ba, bj, bp, bd, br⟩, ⟨B6, bm6⟩, ⟨B7, bm7⟩, ⟨B8, bm8⟩⟩ := b
  obtain ⟨la, bya, wfa, _, _, ⟨i6, i7, i8⟩, _⟩ := ha
  obtain ⟨lb, byb, wfb, _, _, ⟨j6, j7, j8⟩, _⟩ := hb
  obtain ⟨t1, ht1⟩ : ∃ t, tameD (⟨ak, ac, aq, ah, aa, aj, ap, ad, ar⟩ : OpD) = t := ⟨_, rfl⟩
  obtain ⟨t2, ht2⟩ : ∃ t, tameD (⟨bk, bc, bq, bh, ba, bj, bp, bd, br⟩ : OpD) = t := ⟨_, rfl⟩
  have S1 : Hid (Small t1) := Lib.hid (ht1 ▸ small_tame _)
  have S2 : Hid (Small t2) := Lib.hid (ht2 ▸ small_tame _)
  have W1 : Hid (WfD t1) := Lib.hid (ht1 ▸ wf_tame wfa)
  have W2 : Hid (WfD t2) := Lib.hid (ht2 ▸ wf_tame wfb)
  have Y1 : Hid (Byt t1.r) := Lib.hid (ht1 ▸ fun x hx => bya x (List.mem_of_mem_take hx))
  have Y2 : Hid (Byt t2.r) := Lib.hid (ht2 ▸ fun x hx => byb x (List.mem_of_mem_take hx))
  have HTa : Hid (∀ W, Lies W (⟨ak, ac, aq, ah, aa, aj, ap, ad, ar⟩ : OpD) A6 A7 A8 → Calls Tryd.prog 28 #[.agg #[.int .i64 ak, .int .i64 ac, .int .i64 aq, .int .i64 ah, .int .i64 aa, .int .i64 aj, .slice A6 ap.length am6, .slice A7 ad.length am7, .slice A8 ar.length am8]] W fun e w' => ∃ (q6 : Option Addr) (p6 : Nat) (q7 : Option Addr) (p7 : Nat) (q8 : Option Addr) (p8 : Nat), e = .returned (.agg #[.int .i64 t1.k, .int .i64 t1.c, .int .i64 t1.q, .int .i64 t1.h, .int .i64 t1.a, .int .i64 t1.t, .slice q6 t1.p.length p6, .slice q7 t1.s.length p7, .slice q8 t1.r.length p8]) ∧ LiesX w' ((t1, (q6, p6), (q7, p7), (q8, p8)) : OpX) ∧ PastX W.heap.size ((t1, (q6, p6), (q7, p7), (q8, p8)) : OpX) ∧ Below W.heap.size W w') := Lib.hid (fun W h => by
    have := tame_far (⟨ak, ac, aq, ah, aa, aj, ap, ad, ar⟩ : OpD) A6 am6 A7 am7 A8 am8 W h i6 i7 i8
    rw [ht1] at this
    refine this.mono ?_
    rintro e w' ⟨q6, p6, q7, p7, q8, p8, rfl, hL, hP, hB⟩
    exact ⟨q6, p6, q7, p7, q8, p8, rfl, hL, hP, hB⟩)
  have HTb : Hid (∀ W, Lies W (⟨bk, bc, bq, bh, ba, bj, bp, bd, br⟩ : OpD) B6 B7 B8 → Calls Tryd.prog 28 #[.agg #[.int .i64 bk, .int .i64 bc, .int .i64 bq, .int .i64 bh, .int .i64 ba, .int .i64 bj, .slice B6 bp.length bm6, .slice B7 bd.length bm7, .slice B8 br.length bm8]] W fun e w' => ∃ (q6 : Option Addr) (p6 : Nat) (q7 : Option Addr) (p7 : Nat) (q8 : Option Addr) (p8 : Nat), e = .returned (.agg #[.int .i64 t2.k, .int .i64 t2.c, .int .i64 t2.q, .int .i64 t2.h, .int .i64 t2.a, .int .i64 t2.t, .slice q6 t2.p.length p6, .slice q7 t2.s.length p7, .slice q8 t2.r.length p8]) ∧ LiesX w' ((t2, (q6, p6), (q7, p7), (q8, p8)) : OpX) ∧ PastX W.heap.size ((t2, (q6, p6), (q7, p7), (q8, p8)) : OpX) ∧ Below W.heap.size W w') := Lib.hid (fun W h => by
    have := tame_far (⟨bk, bc, bq, bh, ba, bj, bp, bd, br⟩ : OpD) B6 bm6 B7 bm7 B8 bm8 W h j6 j7 j8
    rw [ht2] at this
    refine this.mono ?_
    rintro e w' ⟨q6, p6, q7, p7, q8, p8, rfl, hL, hP, hB⟩
    exact ⟨q6, p6, q7, p7, q8, p8, rfl, hL, hP, hB⟩)
  have HG := Aside0.mk hg
  have hWw := below_alloc (below_alloc (Below.refl w.heap.size w) (.cells #[.int .i64 ak, .int .i64 ac, .int .i64 aq, .int .i64 ah, .int .i64 aa, .int .i64 aj, .slice A6 ap.length am6, .slice A7 ad.length am7, .slice A8 ar.length am8] 30)) (.cells #[.int .i64 bk, .int .i64 bc, .int .i64 bq, .int .i64 bh, .int .i64 ba, .int .i64 bj, .slice B6 bp.length bm6, .slice B7 bd.length bm7, .slice B8 br.length bm8] 30)
  have HBa := Aside0.mk (blk_alloc (blk_new w (.cells #[.int .i64 ak, .int .i64 ac, .int .i64 aq, .int .i64 ah, .int .i64 aa, .int .i64 aj, .slice A6 ap.length am6, .slice A7 ad.length am7, .slice A8 ar.length am8] 30)) (.cells #[.int .i64 bk, .int .i64 bc, .int .i64 bq, .int .i64 bh, .int .i64 ba, .int .i64 bj, .slice B6 bp.length bm6, .slice B7 bd.length bm7, .slice B8 br.length bm8] 30))
  have hbb := blk_new (w.alloc (.cells #[.int .i64 ak, .int .i64 ac, .int .i64 aq, .int .i64 ah, .int .i64 aa, .int .i64 aj, .slice A6 ap.length am6, .slice A7 ad.length am7, .slice A8 ar.length am8] 30)) (.cells #[.int .i64 bk, .int .i64 bc, .int .i64 bq, .int .i64 bh, .int .i64 ba, .int .i64 bj, .slice B6 bp.length bm6, .slice B7 bd.length bm7, .slice B8 br.length bm8] 30)
  rw [show (w.alloc (.cells #[.int .i64 ak, .int .i64 ac, .int .i64 aq, .int .i64 ah, .int .i64 aa, .int .i64 aj, .slice A6 ap.length am6, .slice A7 ad.length am7, .slice A8 ar.length am8] 30)).heap.size = w.heap.size + 1 by simp] at hbb
  have HBb := Aside0.mk hbb
  have HLa := Aside0.mk (Lies.below la hWw)
  have HLb := Aside0.mk (Lies.below lb hWw)
  have HWw := Aside0.mk hWw
  clear la lb bya byb wfa wfb i6 i7 i8 j6 j7 j8 ht1 ht2 hg hWw hbb
  go_enter Tryd.func7, Tryd.ntmps7
  go_upto_region 1 with fail
  generalize ((w.alloc (.cells #[.int .i64 ak, .int .i64 ac, .int .i64 aq, .int .i64 ah, .int .i64 aa, .int .i64 aj, .slice A6 ap.length am6, .slice A7 ad.length am7, .slice A8 ar.length am8] 30)).alloc (.cells #[.int .i64 bk, .int .i64 bc, .int .i64 bq, .int .i64 bh, .int .i64 ba, .int .i64 bj, .slice B6 bp.length bm6, .slice B7 bd.length bm7, .slice B8 br.length bm8] 30)) = wd at *
  have HW := Aside0.mk (Below.refl wd.heap.size wd)
  go_cut [7, 8] from 18 to 21 (fun v u wx => ∃ g7 g8 X6 xm6 X7 xm7 X8 xm8 Y6 ym6 Y7 ym7 Y8 ym8, v = .pointer (some ⟨g7, 0, none⟩) ∧ u = .pointer (some ⟨g8, 0, none⟩) ∧ Aside0 (Below wd.heap.size wd wx) ∧ Aside0 (LiesX wx ((t1, (X6, xm6), (X7, xm7), (X8, xm8)) : OpX)) ∧ Aside0 (LiesX wx ((t2, (Y6, ym6), (Y7, ym7), (Y8, ym8)) : OpX)) ∧ Aside0 (wx.heap[g7]? = some (.cells #[.int .i64 t1.k, .int .i64 t1.c, .int .i64 t1.q, .int .i64 t1.h, .int .i64 t1.a, .int .i64 t1.t, .slice X6 t1.p.length xm6, .slice X7 t1.s.length xm7, .slice X8 t1.r.length xm8] 30 (0, 0))) ∧ Aside0 (wx.heap[g8]? = some (.cells #[.int .i64 t2.k, .int .i64 t2.c, .int .i64 t2.q, .int .i64 t2.h, .int .i64 t2.a, .int .i64 t2.t, .slice Y6 t2.p.length ym6, .slice Y7 t2.s.length ym7, .slice Y8 t2.r.length ym8] 30 (0, 0))) ∧ Aside0 (wd.heap.size ≤ g7) ∧ Aside0 (wd.heap.size ≤ g8) ∧ Aside0 (OffX (some g7) ((t1, (X6, xm6), (X7, xm7), (X8, xm8)) : OpX)) ∧ Aside0 (OffX (some g8) ((t1, (X6, xm6), (X7, xm7), (X8, xm8)) : OpX)) ∧ Aside0 (OffX (some g7) ((t2, (Y6, ym6), (Y7, ym7), (Y8, ym8)) : OpX)) ∧ Aside0 (OffX (some g8) ((t2, (Y6, ym6), (Y7, ym7), (Y8, ym8)) : OpX)) ∧ Aside0 (g7 ≠ g8))
  case first =>
    refine start_ (n := 8) (S := fun w' => True) (ds := []) #[false, false, false, false, false, false, false, false] (by kernel_rfl) rfl rfl trivial (fun hHeld => ?_)
    refine with_tabW bk1Reg.tab1 bk1Reg.bits1 (fun HT_ HW_ => ?_)
    refine inv_at [0, 1, 2, 3, 4, 5, 6, 7] (fun a0_ b a w' => ∃ (g7_ : Nat) (g8_ : Nat) (X6_ : Option Addr) (xm6_ : Nat) (X7_ : Option Addr) (xm7_ : Nat) (X8_ : Option Addr) (xm8_ : Nat) (Y6_ : Option Addr) (ym6_ : Nat) (Y7_ : Option Addr) (ym7_ : Nat) (Y8_ : Option Addr) (ym8_ : Nat) (m1_ : Value) (m3_ : Value) (m4_ : Value) (m5_ : Value), a = putSel a0_ b [(0, 18, .agg #[.int .i64 ak, .int .i64 ac, .int .i64 aq, .int .i64 ah, .int .i64 aa, .int .i64 aj, .slice A6 ap.length am6, .slice A7 ad.length am7, .slice A8 ar.length am8]), (1, 19, m1_), (2, 20, .agg #[.int .i64 bk, .int .i64 bc, .int .i64 bq, .int .i64 bh, .int .i64 ba, .int .i64 bj, .slice B6 bp.length bm6, .slice B7 bd.length bm7, .slice B8 br.length bm8]), (3, 21, m3_), (4, 7, m4_), (5, 8, m5_)] ∧ (Below wd.heap.size wd w') ∧ (b 1 = true → LiesX w' ((t1, (X6_, xm6_), (X7_, xm7_), (X8_, xm8_)) : OpX)) ∧ (b 3 = true → LiesX w' ((t2, (Y6_, ym6_), (Y7_, ym7_), (Y8_, ym8_)) : OpX)) ∧ (b 4 = true → b 6 = false → w'.heap[g7_]? = some (.cells #[.int .i64 0, .int .i64 0, .int .i64 0, .int .i64 0, .int .i64 0, .int .i64 0, .slice none 0 0, .slice none 0 0, .slice none 0 0] 30 (0, 0))) ∧ (b 6 = true → w'.heap[g7_]? = some (.cells #[.int .i64 t1.k, .int .i64 t1.c, .int .i64 t1.q, .int .i64 t1.h, .int .i64 t1.a, .int .i64 t1.t, .slice X6_ t1.p.length xm6_, .slice X7_ t1.s.length xm7_, .slice X8_ t1.r.length xm8_] 30 (0, 0))) ∧ (b 5 = true → b 7 = false → w'.heap[g8_]? = some (.cells #[.int .i64 0, .int .i64 0, .int .i64 0, .int .i64 0, .int .i64 0, .int .i64 0, .slice none 0 0, .slice none 0 0, .slice none 0 0] 30 (0, 0))) ∧ (b 7 = true → w'.heap[g8_]? = some (.cells #[.int .i64 t2.k, .int .i64 t2.c, .int .i64 t2.q, .int .i64 t2.h, .int .i64 t2.a, .int .i64 t2.t, .slice Y6_ t2.p.length ym6_, .slice Y7_ t2.s.length ym7_, .slice Y8_ t2.r.length ym8_] 30 (0, 0))) ∧ (b 4 = true → wd.heap.size ≤ g7_) ∧ (b 5 = true → wd.heap.size ≤ g8_) ∧ (b 1 = true → b 4 = true → OffX (some g7_) ((t1, (X6_, xm6_), (X7_, xm7_), (X8_, xm8_)) : OpX)) ∧ (b 1 = true → b 5 = true → OffX (some g8_) ((t1, (X6_, xm6_), (X7_, xm7_), (X8_, xm8_)) : OpX)) ∧ (b 3 = true → b 4 = true → OffX (some g7_) ((t2, (Y6_, ym6_), (Y7_, ym7_), (Y8_, ym8_)) : OpX)) ∧ (b 3 = true → b 5 = true → OffX (some g8_) ((t2, (Y6_, ym6_), (Y7_, ym7_), (Y8_, ym8_)) : OpX)) ∧ (b 4 = true → b 5 = true → g7_ ≠ g8_) ∧ (b 1 = true → (m1_ : Value) = .agg #[.int .i64 t1.k, .int .i64 t1.c, .int .i64 t1.q, .int .i64 t1.h, .int .i64 t1.a, .int .i64 t1.t, .slice X6_ t1.p.length xm6_, .slice X7_ t1.s.length xm7_, .slice X8_ t1.r.length xm8_]) ∧ (b 3 = true → (m3_ : Value) = .agg #[.int .i64 t2.k, .int .i64 t2.c, .int .i64 t2.q, .int .i64 t2.h, .int .i64 t2.a, .int .i64 t2.t, .slice Y6_ t2.p.length ym6_, .slice Y7_ t2.s.length ym7_, .slice Y8_ t2.r.length ym8_]) ∧ (b 4 = true → (m4_ : Value) = .pointer (some ⟨g7_, 0, none⟩)) ∧ (b 5 = true → (m5_ : Value) = .pointer (some ⟨g8_, 0, none⟩))) HT_.out HW_.out (by kernel_rfl) (by kernel_rfl) ?_ ?_ ?_
    · exact ⟨0, 0, none, 0, none, 0, none, 0, none, 0, none, 0, none, 0, .bool false, .bool false, .bool false, .bool false, by simp only [putSel, Bool.false_eq_true, if_false], below_drew HW.out, fun h_ => absurd h_ (by decide), fun h_ => absurd h_ (by decide), fun h_ => absurd h_ (by decide), fun h_ => absurd h_ (by decide), fun h_ => absurd h_ (by decide), fun h_ => absurd h_ (by decide), fun h_ => absurd h_ (by decide), fun h_ => absurd h_ (by decide), fun h_ => absurd h_ (by decide), fun h_ => absurd h_ (by decide), fun h_ => absurd h_ (by decide), fun h_ => absurd h_ (by decide), fun h_ => absurd h_ (by decide), fun h_ => absurd h_ (by decide), fun h_ => absurd h_ (by decide), fun h_ => absurd h_ (by decide), fun h_ => absurd h_ (by decide)⟩
    · skip
      clear HW
      refine steps_cons ?_ ?_
      · rintro b a w' ⟨g7_, g8_, X6_, xm6_, X7_, xm7_, X8_, xm8_, Y6_, ym6_, Y7_, ym7_, Y8_, ym8_, m1_, m3_, m4_, m5_, ha, Q_HW, Q_L1, Q_L2, Q_Z7, Q_F7, Q_Z8, Q_F8, Q_G7, Q_G8, Q_P17, Q_P18, Q_P27, Q_P28, Q_N78, Q_X1_, Q_X3_, Q_X4_, Q_X5_⟩ hb_ hon hoff
        refine ⟨_, rfl, fun K hK => ?_⟩
        have e3 : a.tmps[3]? = some (.pointer (some ⟨w.heap.size, 0, none⟩)) := by rw [ha]; exact (putSel_off rfl).trans rfl
        replace ha := Aside0.mk ha
        have HW := Aside0.mk Q_HW
        obtain ⟨q0, q1, q2, q3, q4, q5, q6, q7, q8⟩ := nine (blk_below HBa.out HW.out)
        refine value_ (w1 := w') (v := .agg #[.int .i64 ak, .int .i64 ac, .int .i64 aq, .int .i64 ah, .int .i64 aa, .int .i64 aj, .slice A6 ap.length am6, .slice A7 ad.length am7, .slice A8 ar.length am8]) (by rfl) rfl ?_ ?_
        · go_simp
          (try simp only [i64_w])
          try rfl
        refine hK.out _ _ ⟨g7_, g8_, X6_, xm6_, X7_, xm7_, X8_, xm8_, Y6_, ym6_, Y7_, ym7_, Y8_, ym8_, m1_, m3_, m4_, m5_, (by rw [ha.out]; exact putSel_upk 0 hb_ rfl rfl rfl), Q_HW, fun h0_ => absurd ((hoff 1 (by kernel_rfl)).symm.trans h0_) (by decide), fun h0_ => absurd ((hoff 3 (by kernel_rfl)).symm.trans h0_) (by decide), Q_Z7, fun h0_ => absurd ((hoff 6 (by kernel_rfl)).symm.trans h0_) (by decide), Q_Z8, fun h0_ => absurd ((hoff 7 (by kernel_rfl)).symm.trans h0_) (by decide), Q_G7, Q_G8, fun h0_ _ => absurd ((hoff 1 (by kernel_rfl)).symm.trans h0_) (by decide), fun h0_ _ => absurd ((hoff 1 (by kernel_rfl)).symm.trans h0_) (by decide), fun h0_ _ => absurd ((hoff 3 (by kernel_rfl)).symm.trans h0_) (by decide), fun h0_ _ => absurd ((hoff 3 (by kernel_rfl)).symm.trans h0_) (by decide), Q_N78, fun h0_ => absurd ((hoff 1 (by kernel_rfl)).symm.trans h0_) (by decide), fun h0_ => absurd ((hoff 3 (by kernel_rfl)).symm.trans h0_) (by decide), Q_X4_, Q_X5_⟩
      refine steps_cons ?_ ?_
      · rintro b a w' ⟨g7_, g8_, X6_, xm6_, X7_, xm7_, X8_, xm8_, Y6_, ym6_, Y7_, ym7_, Y8_, ym8_, m1_, m3_, m4_, m5_, ha, Q_HW, Q_L1, Q_L2, Q_Z7, Q_F7, Q_Z8, Q_F8, Q_G7, Q_G8, Q_P17, Q_P18, Q_P27, Q_P28, Q_N78, Q_X1_, Q_X3_, Q_X4_, Q_X5_⟩ hb_ hon hoff
        refine ⟨_, rfl, fun K hK => ?_⟩
        have e18 : a.tmps[18]? = some (.agg #[.int .i64 ak, .int .i64 ac, .int .i64 aq, .int .i64 ah, .int .i64 aa, .int .i64 aj, .slice A6 ap.length am6, .slice A7 ad.length am7, .slice A8 ar.length am8]) := by rw [ha]; exact putSel_on (e := (0, 18, .agg #[.int .i64 ak, .int .i64 ac, .int .i64 aq, .int .i64 ah, .int .i64 aa, .int .i64 aj, .slice A6 ap.length am6, .slice A7 ad.length am7, .slice A8 ar.length am8])) 0 rfl rfl (hon 0 (by kernel_rfl)) rfl
        replace ha := Aside0.mk ha
        have HW := Aside0.mk Q_HW
        refine goes_ Tryd.func28 (by kernel_rfl) rfl #[.agg #[.int .i64 ak, .int .i64 ac, .int .i64 aq, .int .i64 ah, .int .i64 aa, .int .i64 aj, .slice A6 ap.length am6, .slice A7 ad.length am7, .slice A8 ar.length am8]] (by rfl) rfl rfl (by simp only [List.map_toArray, List.map_cons, List.map_nil, Act.eval, Array.getD_eq_getD_getElem?, Option.getD_some, e18]) ?_
        refine (HTa.out w' (Lies.below HLa.out HW.out)).mono ?_
        rintro e w2 ⟨q6, p6, q7, p7, q8, p8, rfl, hL, hP, hB⟩
        refine ⟨_, rfl, ?_⟩
        refine hK.out _ _ ⟨g7_, g8_, q6, p6, q7, p7, q8, p8, Y6_, ym6_, Y7_, ym7_, Y8_, ym8_, (.agg #[.int .i64 t1.k, .int .i64 t1.c, .int .i64 t1.q, .int .i64 t1.h, .int .i64 t1.a, .int .i64 t1.t, .slice q6 t1.p.length p6, .slice q7 t1.s.length p7, .slice q8 t1.r.length p8]), m3_, m4_, m5_, (by rw [ha.out]; exact putSel_upk 1 hb_ rfl rfl rfl), below_step HW.out hB, fun _ => hL, fun h0_ => absurd ((hoff 3 (by kernel_rfl)).symm.trans h0_) (by decide), fun h0_ h1_ => blk_below (Q_Z7 h0_ h1_) hB, fun h0_ => absurd ((hoff 6 (by kernel_rfl)).symm.trans h0_) (by decide), fun h0_ h1_ => blk_below (Q_Z8 h0_ h1_) hB, fun h0_ => absurd ((hoff 7 (by kernel_rfl)).symm.trans h0_) (by decide), Q_G7, Q_G8, fun _ _ => OffX_past hP (fun k_ hk_ => by cases hk_; exact blk_lt (Q_Z7 (by assumption) (hoff 6 (by kernel_rfl)))), fun _ _ => OffX_past hP (fun k_ hk_ => by cases hk_; exact blk_lt (Q_Z8 (by assumption) (hoff 7 (by kernel_rfl)))), fun h0_ _ => absurd ((hoff 3 (by kernel_rfl)).symm.trans h0_) (by decide), fun h0_ _ => absurd ((hoff 3 (by kernel_rfl)).symm.trans h0_) (by decide), Q_N78, fun _ => rfl, fun h0_ => absurd ((hoff 3 (by kernel_rfl)).symm.trans h0_) (by decide), Q_X4_, Q_X5_⟩
      refine steps_cons ?_ ?_
      · rintro b a w' ⟨g7_, g8_, X6_, xm6_, X7_, xm7_, X8_, xm8_, Y6_, ym6_, Y7_, ym7_, Y8_, ym8_, m1_, m3_, m4_, m5_, ha, Q_HW, Q_L1, Q_L2, Q_Z7, Q_F7, Q_Z8, Q_F8, Q_G7, Q_G8, Q_P17, Q_P18, Q_P27, Q_P28, Q_N78, Q_X1_, Q_X3_, Q_X4_, Q_X5_⟩ hb_ hon hoff
        refine ⟨_, rfl, fun K hK => ?_⟩
        have e4 : a.tmps[4]? = some (.pointer (some ⟨w.heap.size + 1, 0, none⟩)) := by rw [ha]; exact (putSel_off rfl).trans rfl
        replace ha := Aside0.mk ha
        have HW := Aside0.mk Q_HW
        obtain ⟨q0, q1, q2, q3, q4, q5, q6, q7, q8⟩ := nine (blk_below HBb.out HW.out)
        refine value_ (w1 := w') (v := .agg #[.int .i64 bk, .int .i64 bc, .int .i64 bq, .int .i64 bh, .int .i64 ba, .int .i64 bj, .slice B6 bp.length bm6, .slice B7 bd.length bm7, .slice B8 br.length bm8]) (by rfl) rfl ?_ ?_
        · go_simp
          (try simp only [i64_w])
          try rfl
        refine hK.out _ _ ⟨g7_, g8_, X6_, xm6_, X7_, xm7_, X8_, xm8_, Y6_, ym6_, Y7_, ym7_, Y8_, ym8_, m1_, m3_, m4_, m5_, (by rw [ha.out]; exact putSel_upk 2 hb_ rfl rfl rfl), Q_HW, Q_L1, fun h0_ => absurd ((hoff 3 (by kernel_rfl)).symm.trans h0_) (by decide), Q_Z7, fun h0_ => absurd ((hoff 6 (by kernel_rfl)).symm.trans h0_) (by decide), Q_Z8, fun h0_ => absurd ((hoff 7 (by kernel_rfl)).symm.trans h0_) (by decide), Q_G7, Q_G8, Q_P17, Q_P18, fun h0_ _ => absurd ((hoff 3 (by kernel_rfl)).symm.trans h0_) (by decide), fun h0_ _ => absurd ((hoff 3 (by kernel_rfl)).symm.trans h0_) (by decide), Q_N78, Q_X1_, fun h0_ => absurd ((hoff 3 (by kernel_rfl)).symm.trans h0_) (by decide), Q_X4_, Q_X5_⟩
      refine steps_cons ?_ ?_
      · rintro b a w' ⟨g7_, g8_, X6_, xm6_, X7_, xm7_, X8_, xm8_, Y6_, ym6_, Y7_, ym7_, Y8_, ym8_, m1_, m3_, m4_, m5_, ha, Q_HW, Q_L1, Q_L2, Q_Z7, Q_F7, Q_Z8, Q_F8, Q_G7, Q_G8, Q_P17, Q_P18, Q_P27, Q_P28, Q_N78, Q_X1_, Q_X3_, Q_X4_, Q_X5_⟩ hb_ hon hoff
        refine ⟨_, rfl, fun K hK => ?_⟩
        have e20 : a.tmps[20]? = some (.agg #[.int .i64 bk, .int .i64 bc, .int .i64 bq, .int .i64 bh, .int .i64 ba, .int .i64 bj, .slice B6 bp.length bm6, .slice B7 bd.length bm7, .slice B8 br.length bm8]) := by rw [ha]; exact putSel_on (e := (2, 20, .agg #[.int .i64 bk, .int .i64 bc, .int .i64 bq, .int .i64 bh, .int .i64 ba, .int .i64 bj, .slice B6 bp.length bm6, .slice B7 bd.length bm7, .slice B8 br.length bm8])) 2 rfl rfl (hon 2 (by kernel_rfl)) rfl
        replace ha := Aside0.mk ha
        have HW := Aside0.mk Q_HW
        have L1 := Aside0.mk (Q_L1 (hon 1 (by kernel_rfl)))
        refine goes_ Tryd.func28 (by kernel_rfl) rfl #[.agg #[.int .i64 bk, .int .i64 bc, .int .i64 bq, .int .i64 bh, .int .i64 ba, .int .i64 bj, .slice B6 bp.length bm6, .slice B7 bd.length bm7, .slice B8 br.length bm8]] (by rfl) rfl rfl (by simp only [List.map_toArray, List.map_cons, List.map_nil, Act.eval, Array.getD_eq_getD_getElem?, Option.getD_some, e20]) ?_
        refine (HTb.out w' (Lies.below HLb.out HW.out)).mono ?_
        rintro e w2 ⟨q6, p6, q7, p7, q8, p8, rfl, hL, hP, hB⟩
        refine ⟨_, rfl, ?_⟩
        refine hK.out _ _ ⟨g7_, g8_, X6_, xm6_, X7_, xm7_, X8_, xm8_, q6, p6, q7, p7, q8, p8, m1_, (.agg #[.int .i64 t2.k, .int .i64 t2.c, .int .i64 t2.q, .int .i64 t2.h, .int .i64 t2.a, .int .i64 t2.t, .slice q6 t2.p.length p6, .slice q7 t2.s.length p7, .slice q8 t2.r.length p8]), m4_, m5_, (by rw [ha.out]; exact putSel_upk 3 hb_ rfl rfl rfl), below_step HW.out hB, fun _ => Lies.below L1.out hB, fun _ => hL, fun h0_ h1_ => blk_below (Q_Z7 h0_ h1_) hB, fun h0_ => absurd ((hoff 6 (by kernel_rfl)).symm.trans h0_) (by decide), fun h0_ h1_ => blk_below (Q_Z8 h0_ h1_) hB, fun h0_ => absurd ((hoff 7 (by kernel_rfl)).symm.trans h0_) (by decide), Q_G7, Q_G8, Q_P17, Q_P18, fun _ _ => OffX_past hP (fun k_ hk_ => by cases hk_; exact blk_lt (Q_Z7 (by assumption) (hoff 6 (by kernel_rfl)))), fun _ _ => OffX_past hP (fun k_ hk_ => by cases hk_; exact blk_lt (Q_Z8 (by assumption) (hoff 7 (by kernel_rfl)))), Q_N78, Q_X1_, fun _ => rfl, Q_X4_, Q_X5_⟩
      refine steps_cons ?_ ?_
      · rintro b a w' ⟨g7_, g8_, X6_, xm6_, X7_, xm7_, X8_, xm8_, Y6_, ym6_, Y7_, ym7_, Y8_, ym8_, m1_, m3_, m4_, m5_, ha, Q_HW, Q_L1, Q_L2, Q_Z7, Q_F7, Q_Z8, Q_F8, Q_G7, Q_G8, Q_P17, Q_P18, Q_P27, Q_P28, Q_N78, Q_X1_, Q_X3_, Q_X4_, Q_X5_⟩ hb_ hon hoff
        refine ⟨_, rfl, fun K hK => ?_⟩
        replace ha := Aside0.mk ha
        have HW := Aside0.mk Q_HW
        refine value_ (w1 := w'.alloc (.cells #[.int .i64 0, .int .i64 0, .int .i64 0, .int .i64 0, .int .i64 0, .int .i64 0, .slice none 0 0, .slice none 0 0, .slice none 0 0] 30)) (v := .pointer (some ⟨w'.heap.size, 0, none⟩)) (by rfl) rfl (by go_simp) ?_
        refine hK.out _ _ ⟨w'.heap.size, g8_, X6_, xm6_, X7_, xm7_, X8_, xm8_, Y6_, ym6_, Y7_, ym7_, Y8_, ym8_, m1_, m3_, (.pointer (some ⟨w'.heap.size, 0, none⟩)), m5_, (by rw [ha.out]; exact putSel_upk 4 hb_ rfl rfl rfl), below_alloc HW.out _, fun h0_ => Lies.below (Q_L1 h0_) (below_alloc (Below.refl _ _) _), fun h0_ => Lies.below (Q_L2 h0_) (below_alloc (Below.refl _ _) _), fun _ _ => blk_new w' _, fun h0_ => absurd ((hoff 6 (by kernel_rfl)).symm.trans h0_) (by decide), fun h0_ h1_ => blk_alloc (Q_Z8 h0_ h1_) _, fun h0_ => absurd ((hoff 7 (by kernel_rfl)).symm.trans h0_) (by decide), fun _ => HW.out.size, Q_G8, fun _ _ => OffX_new (Q_L1 (by assumption)) (Nat.le_refl _), Q_P18, fun _ _ => OffX_new (Q_L2 (by assumption)) (Nat.le_refl _), Q_P28, fun _ _ => Nat.ne_of_gt (blk_lt (Q_Z8 (by assumption) (hoff 7 (by kernel_rfl)))), Q_X1_, Q_X3_, fun _ => rfl, Q_X5_⟩
      refine steps_cons ?_ ?_
      · rintro b a w' ⟨g7_, g8_, X6_, xm6_, X7_, xm7_, X8_, xm8_, Y6_, ym6_, Y7_, ym7_, Y8_, ym8_, m1_, m3_, m4_, m5_, ha, Q_HW, Q_L1, Q_L2, Q_Z7, Q_F7, Q_Z8, Q_F8, Q_G7, Q_G8, Q_P17, Q_P18, Q_P27, Q_P28, Q_N78, Q_X1_, Q_X3_, Q_X4_, Q_X5_⟩ hb_ hon hoff
        refine ⟨_, rfl, fun K hK => ?_⟩
        replace ha := Aside0.mk ha
        have HW := Aside0.mk Q_HW
        refine value_ (w1 := w'.alloc (.cells #[.int .i64 0, .int .i64 0, .int .i64 0, .int .i64 0, .int .i64 0, .int .i64 0, .slice none 0 0, .slice none 0 0, .slice none 0 0] 30)) (v := .pointer (some ⟨w'.heap.size, 0, none⟩)) (by rfl) rfl (by go_simp) ?_
        refine hK.out _ _ ⟨g7_, w'.heap.size, X6_, xm6_, X7_, xm7_, X8_, xm8_, Y6_, ym6_, Y7_, ym7_, Y8_, ym8_, m1_, m3_, m4_, (.pointer (some ⟨w'.heap.size, 0, none⟩)), (by rw [ha.out]; exact putSel_upk 5 hb_ rfl rfl rfl), below_alloc HW.out _, fun h0_ => Lies.below (Q_L1 h0_) (below_alloc (Below.refl _ _) _), fun h0_ => Lies.below (Q_L2 h0_) (below_alloc (Below.refl _ _) _), fun h0_ h1_ => blk_alloc (Q_Z7 h0_ h1_) _, fun h0_ => absurd ((hoff 6 (by kernel_rfl)).symm.trans h0_) (by decide), fun _ _ => blk_new w' _, fun h0_ => absurd ((hoff 7 (by kernel_rfl)).symm.trans h0_) (by decide), Q_G7, fun _ => HW.out.size, Q_P17, fun _ _ => OffX_new (Q_L1 (by assumption)) (Nat.le_refl _), Q_P27, fun _ _ => OffX_new (Q_L2 (by assumption)) (Nat.le_refl _), fun _ _ => Nat.ne_of_lt (blk_lt (Q_Z7 (by assumption) (hoff 6 (by kernel_rfl)))), Q_X1_, Q_X3_, Q_X4_, fun _ => rfl⟩
      refine steps_cons ?_ ?_
      · rintro b a w' ⟨g7_, g8_, X6_, xm6_, X7_, xm7_, X8_, xm8_, Y6_, ym6_, Y7_, ym7_, Y8_, ym8_, m1_, m3_, m4_, m5_, ha, Q_HW, Q_L1, Q_L2, Q_Z7, Q_F7, Q_Z8, Q_F8, Q_G7, Q_G8, Q_P17, Q_P18, Q_P27, Q_P28, Q_N78, Q_X1_, Q_X3_, Q_X4_, Q_X5_⟩ hb_ hon hoff
        refine ⟨_, rfl, fun K hK => ?_⟩
        have e7 : a.tmps[7]? = some (m4_) := by rw [ha]; exact putSel_on (e := (4, 7, m4_)) 4 rfl rfl (hon 4 (by kernel_rfl)) rfl
        rw [Q_X4_ (hon 4 (by kernel_rfl))] at e7
        have e19 : a.tmps[19]? = some (m1_) := by rw [ha]; exact putSel_on (e := (1, 19, m1_)) 1 rfl rfl (hon 1 (by kernel_rfl)) rfl
        rw [Q_X1_ (hon 1 (by kernel_rfl))] at e19
        replace ha := Aside0.mk ha
        have HW := Aside0.mk Q_HW
        have L1 := Aside0.mk (Q_L1 (hon 1 (by kernel_rfl)))
        have L2 := Aside0.mk (Q_L2 (hon 3 (by kernel_rfl)))
        have Z7 := Aside0.mk (Q_Z7 (hon 4 (by kernel_rfl)) hb_)
        have Z8 := Aside0.mk (Q_Z8 (hon 5 (by kernel_rfl)) (hoff 7 (by kernel_rfl)))
        have G7 := Aside0.mk (Q_G7 (hon 4 (by kernel_rfl)))
        have G8 := Aside0.mk (Q_G8 (hon 5 (by kernel_rfl)))
        have P17 := Aside0.mk (Q_P17 (hon 1 (by kernel_rfl)) (hon 4 (by kernel_rfl)))
        have P18 := Aside0.mk (Q_P18 (hon 1 (by kernel_rfl)) (hon 5 (by kernel_rfl)))
        have P27 := Aside0.mk (Q_P27 (hon 3 (by kernel_rfl)) (hon 4 (by kernel_rfl)))
        have P28 := Aside0.mk (Q_P28 (hon 3 (by kernel_rfl)) (hon 5 (by kernel_rfl)))
        have N78 := Aside0.mk (Q_N78 (hon 4 (by kernel_rfl)) (hon 5 (by kernel_rfl)))
        obtain ⟨z0, z1, z2, z3, z4, z5, z6, z7, z8⟩ := nine Z7.out
        obtain ⟨f0, f1, f2, f3, f4, f5, f6, f7, f8⟩ := nineF Z7.out
        have hl := blk_lt Z7.out
        refine skip_ (w1 := (((((((((w'.setCell ⟨g7_, 0, none⟩ (Value.int .i64 t1.k)).setCell ⟨g7_, 1, none⟩ (Value.int .i64 t1.c)).setCell ⟨g7_, 2, none⟩ (Value.int .i64 t1.q)).setCell ⟨g7_, 3, none⟩ (Value.int .i64 t1.h)).setCell ⟨g7_, 4, none⟩ (Value.int .i64 t1.a)).setCell ⟨g7_, 5, none⟩ (Value.int .i64 t1.t)).setCell ⟨g7_, 6, none⟩ (Value.slice X6_ t1.p.length xm6_)).setCell ⟨g7_, 7, none⟩ (Value.slice X7_ t1.s.length xm7_)).setCell ⟨g7_, 8, none⟩ (Value.slice X8_ t1.r.length xm8_))) (by rfl) rfl (by go_simp) ?_
        refine hK.out _ _ ⟨g7_, g8_, X6_, xm6_, X7_, xm7_, X8_, xm8_, Y6_, ym6_, Y7_, ym7_, Y8_, ym8_, m1_, m3_, m4_, m5_, (by rw [ha.out]; exact putSel_none (v := undef) rfl), (below_set (below_set (below_set (below_set (below_set (below_set (below_set (below_set (below_set HW.out G7.out) G7.out) G7.out) G7.out) G7.out) G7.out) G7.out) G7.out) G7.out), fun _ => Lies_off L1.out (put9 Z7.out (.int .i64 t1.k) (.int .i64 t1.c) (.int .i64 t1.q) (.int .i64 t1.h) (.int .i64 t1.a) (.int .i64 t1.t) (.slice X6_ t1.p.length xm6_) (.slice X7_ t1.s.length xm7_) (.slice X8_ t1.r.length xm8_)).1 P17.out, fun _ => Lies_off L2.out (put9 Z7.out (.int .i64 t1.k) (.int .i64 t1.c) (.int .i64 t1.q) (.int .i64 t1.h) (.int .i64 t1.a) (.int .i64 t1.t) (.slice X6_ t1.p.length xm6_) (.slice X7_ t1.s.length xm7_) (.slice X8_ t1.r.length xm8_)).1 P27.out, fun _ h1_ => absurd ((up_self b 6).symm.trans h1_) (by decide), fun _ => (put9 Z7.out (.int .i64 t1.k) (.int .i64 t1.c) (.int .i64 t1.q) (.int .i64 t1.h) (.int .i64 t1.a) (.int .i64 t1.t) (.slice X6_ t1.p.length xm6_) (.slice X7_ t1.s.length xm7_) (.slice X8_ t1.r.length xm8_)).2.1, fun h0_ h1_ => KeepBut.blk (put9 Z7.out (.int .i64 t1.k) (.int .i64 t1.c) (.int .i64 t1.q) (.int .i64 t1.h) (.int .i64 t1.a) (.int .i64 t1.t) (.slice X6_ t1.p.length xm6_) (.slice X7_ t1.s.length xm7_) (.slice X8_ t1.r.length xm8_)).1 (Q_Z8 h0_ h1_) (Ne.symm (Q_N78 (hon 4 (by kernel_rfl)) h0_)) (by simp), fun h0_ => absurd ((hoff 7 (by kernel_rfl)).symm.trans h0_) (by decide), Q_G7, Q_G8, Q_P17, Q_P18, Q_P27, Q_P28, Q_N78, Q_X1_, Q_X3_, Q_X4_, Q_X5_⟩
      refine steps_cons ?_ ?_
      · rintro b a w' ⟨g7_, g8_, X6_, xm6_, X7_, xm7_, X8_, xm8_, Y6_, ym6_, Y7_, ym7_, Y8_, ym8_, m1_, m3_, m4_, m5_, ha, Q_HW, Q_L1, Q_L2, Q_Z7, Q_F7, Q_Z8, Q_F8, Q_G7, Q_G8, Q_P17, Q_P18, Q_P27, Q_P28, Q_N78, Q_X1_, Q_X3_, Q_X4_, Q_X5_⟩ hb_ hon hoff
        refine ⟨_, rfl, fun K hK => ?_⟩
        have e8 : a.tmps[8]? = some (m5_) := by rw [ha]; exact putSel_on (e := (5, 8, m5_)) 5 rfl rfl (hon 5 (by kernel_rfl)) rfl
        rw [Q_X5_ (hon 5 (by kernel_rfl))] at e8
        have e21 : a.tmps[21]? = some (m3_) := by rw [ha]; exact putSel_on (e := (3, 21, m3_)) 3 rfl rfl (hon 3 (by kernel_rfl)) rfl
        rw [Q_X3_ (hon 3 (by kernel_rfl))] at e21
        replace ha := Aside0.mk ha
        have HW := Aside0.mk Q_HW
        have L1 := Aside0.mk (Q_L1 (hon 1 (by kernel_rfl)))
        have L2 := Aside0.mk (Q_L2 (hon 3 (by kernel_rfl)))
        have F7 := Aside0.mk (Q_F7 (hon 6 (by kernel_rfl)))
        have Z8 := Aside0.mk (Q_Z8 (hon 5 (by kernel_rfl)) hb_)
        have G7 := Aside0.mk (Q_G7 (hon 4 (by kernel_rfl)))
        have G8 := Aside0.mk (Q_G8 (hon 5 (by kernel_rfl)))
        have P17 := Aside0.mk (Q_P17 (hon 1 (by kernel_rfl)) (hon 4 (by kernel_rfl)))
        have P18 := Aside0.mk (Q_P18 (hon 1 (by kernel_rfl)) (hon 5 (by kernel_rfl)))
        have P27 := Aside0.mk (Q_P27 (hon 3 (by kernel_rfl)) (hon 4 (by kernel_rfl)))
        have P28 := Aside0.mk (Q_P28 (hon 3 (by kernel_rfl)) (hon 5 (by kernel_rfl)))
        have N78 := Aside0.mk (Q_N78 (hon 4 (by kernel_rfl)) (hon 5 (by kernel_rfl)))
        obtain ⟨z0, z1, z2, z3, z4, z5, z6, z7, z8⟩ := nine Z8.out
        obtain ⟨f0, f1, f2, f3, f4, f5, f6, f7, f8⟩ := nineF Z8.out
        have hl := blk_lt Z8.out
        refine skip_ (w1 := (((((((((w'.setCell ⟨g8_, 0, none⟩ (Value.int .i64 t2.k)).setCell ⟨g8_, 1, none⟩ (Value.int .i64 t2.c)).setCell ⟨g8_, 2, none⟩ (Value.int .i64 t2.q)).setCell ⟨g8_, 3, none⟩ (Value.int .i64 t2.h)).setCell ⟨g8_, 4, none⟩ (Value.int .i64 t2.a)).setCell ⟨g8_, 5, none⟩ (Value.int .i64 t2.t)).setCell ⟨g8_, 6, none⟩ (Value.slice Y6_ t2.p.length ym6_)).setCell ⟨g8_, 7, none⟩ (Value.slice Y7_ t2.s.length ym7_)).setCell ⟨g8_, 8, none⟩ (Value.slice Y8_ t2.r.length ym8_))) (by rfl) rfl (by go_simp) ?_
        refine hK.out _ _ ⟨g7_, g8_, X6_, xm6_, X7_, xm7_, X8_, xm8_, Y6_, ym6_, Y7_, ym7_, Y8_, ym8_, m1_, m3_, m4_, m5_, (by rw [ha.out]; exact putSel_none (v := undef) rfl), (below_set (below_set (below_set (below_set (below_set (below_set (below_set (below_set (below_set HW.out G8.out) G8.out) G8.out) G8.out) G8.out) G8.out) G8.out) G8.out) G8.out), fun _ => Lies_off L1.out (put9 Z8.out (.int .i64 t2.k) (.int .i64 t2.c) (.int .i64 t2.q) (.int .i64 t2.h) (.int .i64 t2.a) (.int .i64 t2.t) (.slice Y6_ t2.p.length ym6_) (.slice Y7_ t2.s.length ym7_) (.slice Y8_ t2.r.length ym8_)).1 P18.out, fun _ => Lies_off L2.out (put9 Z8.out (.int .i64 t2.k) (.int .i64 t2.c) (.int .i64 t2.q) (.int .i64 t2.h) (.int .i64 t2.a) (.int .i64 t2.t) (.slice Y6_ t2.p.length ym6_) (.slice Y7_ t2.s.length ym7_) (.slice Y8_ t2.r.length ym8_)).1 P28.out, fun _ h1_ => absurd ((hon 6 (by kernel_rfl)).symm.trans h1_) (by decide), fun _ => KeepBut.blk (put9 Z8.out (.int .i64 t2.k) (.int .i64 t2.c) (.int .i64 t2.q) (.int .i64 t2.h) (.int .i64 t2.a) (.int .i64 t2.t) (.slice Y6_ t2.p.length ym6_) (.slice Y7_ t2.s.length ym7_) (.slice Y8_ t2.r.length ym8_)).1 F7.out N78.out (by simp), fun _ h1_ => absurd ((up_self b 7).symm.trans h1_) (by decide), fun _ => (put9 Z8.out (.int .i64 t2.k) (.int .i64 t2.c) (.int .i64 t2.q) (.int .i64 t2.h) (.int .i64 t2.a) (.int .i64 t2.t) (.slice Y6_ t2.p.length ym6_) (.slice Y7_ t2.s.length ym7_) (.slice Y8_ t2.r.length ym8_)).2.1, Q_G7, Q_G8, Q_P17, Q_P18, Q_P27, Q_P28, Q_N78, Q_X1_, Q_X3_, Q_X4_, Q_X5_⟩
      exact steps_nil
    · rintro b a w' hall ⟨g7_, g8_, X6_, xm6_, X7_, xm7_, X8_, xm8_, Y6_, ym6_, Y7_, ym7_, Y8_, ym8_, m1_, m3_, m4_, m5_, ha, Q_HW, Q_L1, Q_L2, Q_Z7, Q_F7, Q_Z8, Q_F8, Q_G7, Q_G8, Q_P17, Q_P18, Q_P27, Q_P28, Q_N78, Q_X1_, Q_X3_, Q_X4_, Q_X5_⟩
      clear HW
      have hb0_ := hall 0 (by kernel_rfl)
      have hb1_ := hall 1 (by kernel_rfl)
      have hb2_ := hall 2 (by kernel_rfl)
      have hb3_ := hall 3 (by kernel_rfl)
      have hb4_ := hall 4 (by kernel_rfl)
      have hb5_ := hall 5 (by kernel_rfl)
      have hb6_ := hall 6 (by kernel_rfl)
      have hb7_ := hall 7 (by kernel_rfl)
      subst ha
      obtain rfl := Q_X1_ hb1_
      obtain rfl := Q_X3_ hb3_
      obtain rfl := Q_X4_ hb4_
      obtain rfl := Q_X5_ hb5_
      simp only [putSel, hb0_, hb1_, hb2_, hb3_, hb4_, hb5_, hb6_, hb7_, if_true, Act.put, List.setIfInBounds_toArray, List.set_cons_zero, List.set_cons_succ]
      have HW := Aside0.mk Q_HW
      clear Q_HW
      have L1 := Aside0.mk (Q_L1 hb1_)
      clear Q_L1
      have L2 := Aside0.mk (Q_L2 hb3_)
      clear Q_L2
      clear Q_Z7
      have F7 := Aside0.mk (Q_F7 hb6_)
      clear Q_F7
      clear Q_Z8
      have F8 := Aside0.mk (Q_F8 hb7_)
      clear Q_F8
      have G7 := Aside0.mk (Q_G7 hb4_)
      clear Q_G7
      have G8 := Aside0.mk (Q_G8 hb5_)
      clear Q_G8
      have P17 := Aside0.mk (Q_P17 hb1_ hb4_)
      clear Q_P17
      have P18 := Aside0.mk (Q_P18 hb1_ hb5_)
      clear Q_P18
      have P27 := Aside0.mk (Q_P27 hb3_ hb4_)
      clear Q_P27
      have P28 := Aside0.mk (Q_P28 hb3_ hb5_)
      clear Q_P28
      have N78 := Aside0.mk (Q_N78 hb4_ hb5_)
      clear Q_N78
      clear hall hb0_ hb1_ hb2_ hb3_ hb4_ hb5_ hb6_ hb7_
      go_wp2
      go_meet
      case rel => exact ⟨g7_, g8_, X6_, xm6_, X7_, xm7_, X8_, xm8_, Y6_, ym6_, Y7_, ym7_, Y8_, ym8_, rfl, rfl, HW, L1, L2, F7, F8, G7, G8, P17, P18, P27, P28, N78⟩
  case rest =>
    obtain ⟨g7, g8, X6, xm6, X7, xm7, X8, xm8, Y6, ym6, Y7, ym7, Y8, ym8, rfl, rfl, HW1, L1, L2, F7, F8, G7, G8, P17, P18, P27, P28, N78⟩ := hcut
    clear HW HTa HTb HBa HBb HLa HLb
    go_upto_if 22 with fail
    go_cut [23] from 24 to 26 (fun _ wx => ∃ (u1 u2 : OpD) (V6 : Option Addr) (vm6 : Nat) (V7 : Option Addr) (vm7 : Nat) (V8 : Option Addr) (vm8 : Nat) (U6 : Option Addr) (um6 : Nat) (U7 : Option Addr) (um7 : Nat) (U8 : Option Addr) (um8 : Nat), Hid (Small u1) ∧ Hid (WfD u1) ∧ Hid (Byt u1.r) ∧ Hid (Small u2) ∧ Hid (WfD u2) ∧ Hid (Byt u2.r) ∧ Aside0 (Below wd.heap.size wd wx) ∧ Aside0 (LiesX wx ((u1, (V6, vm6), (V7, vm7), (V8, vm8)) : OpX)) ∧ Aside0 (LiesX wx ((u2, (U6, um6), (U7, um7), (U8, um8)) : OpX)) ∧ Aside0 (wx.heap[g7]? = some (.cells #[.int .i64 u1.k, .int .i64 u1.c, .int .i64 u1.q, .int .i64 u1.h, .int .i64 u1.a, .int .i64 u1.t, .slice V6 u1.p.length vm6, .slice V7 u1.s.length vm7, .slice V8 u1.r.length vm8] 30 (0, 0))) ∧ Aside0 (wx.heap[g8]? = some (.cells #[.int .i64 u2.k, .int .i64 u2.c, .int .i64 u2.q, .int .i64 u2.h, .int .i64 u2.a, .int .i64 u2.t, .slice U6 u2.p.length um6, .slice U7 u2.s.length um7, .slice U8 u2.r.length um8] 30 (0, 0))))
    case first =>
      cases plain with
      | false =>
        go_wp2_with fail
        go_meet
        case rel => exact ⟨t1, t2, X6, xm6, X7, xm7, X8, xm8, Y6, ym6, Y7, ym7, Y8, ym8, S1, W1, Y1, S2, W2, Y2, HW1, L1, L2, F7, F8⟩
      | true =>
        obtain ⟨v1, hv1⟩ : ∃ v, askd t1 = v := ⟨_, rfl⟩
        obtain ⟨v2, hv2⟩ : ∃ v, askd t2 = v := ⟨_, rfl⟩
        have HAa : Hid (∀ W, LiesX W ((t1, (X6, xm6), (X7, xm7), (X8, xm8)) : OpX) → Calls Tryd.prog 18 #[.agg #[.int .i64 t1.k, .int .i64 t1.c, .int .i64 t1.q, .int .i64 t1.h, .int .i64 t1.a, .int .i64 t1.t, .slice X6 t1.p.length xm6, .slice X7 t1.s.length xm7, .slice X8 t1.r.length xm8]] W fun e w' => ∃ (q6 : Option Addr) (p6 : Nat) (q7 : Option Addr) (p7 : Nat) (q8 : Option Addr) (p8 : Nat), e = .returned (.agg #[.int .i64 v1.k, .int .i64 v1.c, .int .i64 v1.q, .int .i64 v1.h, .int .i64 v1.a, .int .i64 v1.t, .slice q6 v1.p.length p6, .slice q7 v1.s.length p7, .slice q8 v1.r.length p8]) ∧ LiesX w' ((v1, (q6, p6), (q7, p7), (q8, p8)) : OpX) ∧ (∀ row, OffX row ((t1, (X6, xm6), (X7, xm7), (X8, xm8)) : OpX) → OffX row ((v1, (q6, p6), (q7, p7), (q8, p8)) : OpX)) ∧ Below W.heap.size W w') := Lib.hid (fun W h => by
          have := asked_far t1 X6 xm6 X7 xm7 X8 xm8 W h
          rw [hv1] at this
          refine this.mono ?_
          rintro e w' ⟨q6, p6, q7, p7, q8, p8, rfl, hL, hq, hB⟩
          exact ⟨q6, p6, q7, p7, q8, p8, rfl, hL, fun row ho => by have := off_askd ho hq (n6 := p6) (n7 := p7) (n8 := p8); rwa [hv1] at this, hB⟩)
        have HAb : Hid (∀ W, LiesX W ((t2, (Y6, ym6), (Y7, ym7), (Y8, ym8)) : OpX) → Calls Tryd.prog 18 #[.agg #[.int .i64 t2.k, .int .i64 t2.c, .int .i64 t2.q, .int .i64 t2.h, .int .i64 t2.a, .int .i64 t2.t, .slice Y6 t2.p.length ym6, .slice Y7 t2.s.length ym7, .slice Y8 t2.r.length ym8]] W fun e w' => ∃ (q6 : Option Addr) (p6 : Nat) (q7 : Option Addr) (p7 : Nat) (q8 : Option Addr) (p8 : Nat), e = .returned (.agg #[.int .i64 v2.k, .int .i64 v2.c, .int .i64 v2.q, .int .i64 v2.h, .int .i64 v2.a, .int .i64 v2.t, .slice q6 v2.p.length p6, .slice q7 v2.s.length p7, .slice q8 v2.r.length p8]) ∧ LiesX w' ((v2, (q6, p6), (q7, p7), (q8, p8)) : OpX) ∧ (∀ row, OffX row ((t2, (Y6, ym6), (Y7, ym7), (Y8, ym8)) : OpX) → OffX row ((v2, (q6, p6), (q7, p7), (q8, p8)) : OpX)) ∧ Below W.heap.size W w') := Lib.hid (fun W h => by
          have := asked_far t2 Y6 ym6 Y7 ym7 Y8 ym8 W h
          rw [hv2] at this
          refine this.mono ?_
          rintro e w' ⟨q6, p6, q7, p7, q8, p8, rfl, hL, hq, hB⟩
          exact ⟨q6, p6, q7, p7, q8, p8, rfl, hL, fun row ho => by have := off_askd ho hq (n6 := p6) (n7 := p7) (n8 := p8); rwa [hv2] at this, hB⟩)
        have S1v : Hid (Small v1) := Lib.hid (hv1 ▸ small_askd S1.out)
        have S2v : Hid (Small v2) := Lib.hid (hv2 ▸ small_askd S2.out)
        have W1v : Hid (WfD v1) := Lib.hid (hv1 ▸ wf_askd W1.out)
        have W2v : Hid (WfD v2) := Lib.hid (hv2 ▸ wf_askd W2.out)
        have Y1v : Hid (Byt v1.r) := Lib.hid (hv1 ▸ byt_askd Y1.out)
        have Y2v : Hid (Byt v2.r) := Lib.hid (hv2 ▸ byt_askd Y2.out)
        have O17 := P17
        have O18 := P18
        have O27 := P27
        have O28 := P28
        have LA := L1
        have LB := L2
        have HW := HW1
        clear P17 P18 P27 P28 L1 L2 HW1 hv1 hv2
        go_upto_region 3 with fail
        refine start_ (n := 6) (S := fun w' => True) (ds := []) #[false, false, false, false, false, false] (by kernel_rfl) rfl rfl trivial (fun hHeld => ?_)
        refine with_tabW bk3Reg.tab3 bk3Reg.bits3 (fun HT_ HW_ => ?_)
        refine inv_at [0, 1, 2, 3, 4, 5] (fun a0_ b a w' => ∃ (V6_ : Option Addr) (vm6_ : Nat) (V7_ : Option Addr) (vm7_ : Nat) (V8_ : Option Addr) (vm8_ : Nat) (U6_ : Option Addr) (um6_ : Nat) (U7_ : Option Addr) (um7_ : Nat) (U8_ : Option Addr) (um8_ : Nat) (m1_ : Value) (m3_ : Value), a = putSel a0_ b [(0, 23, .agg #[.int .i64 t1.k, .int .i64 t1.c, .int .i64 t1.q, .int .i64 t1.h, .int .i64 t1.a, .int .i64 t1.t, .slice X6 t1.p.length xm6, .slice X7 t1.s.length xm7, .slice X8 t1.r.length xm8]), (1, 24, m1_), (2, 25, .agg #[.int .i64 t2.k, .int .i64 t2.c, .int .i64 t2.q, .int .i64 t2.h, .int .i64 t2.a, .int .i64 t2.t, .slice Y6 t2.p.length ym6, .slice Y7 t2.s.length ym7, .slice Y8 t2.r.length ym8]), (3, 26, m3_)] ∧ (Below wd.heap.size wd w') ∧ (b 1 = false → LiesX w' ((t1, (X6, xm6), (X7, xm7), (X8, xm8)) : OpX)) ∧ (b 3 = false → LiesX w' ((t2, (Y6, ym6), (Y7, ym7), (Y8, ym8)) : OpX)) ∧ (b 1 = true → LiesX w' ((v1, (V6_, vm6_), (V7_, vm7_), (V8_, vm8_)) : OpX)) ∧ (b 3 = true → LiesX w' ((v2, (U6_, um6_), (U7_, um7_), (U8_, um8_)) : OpX)) ∧ (b 4 = false → w'.heap[g7]? = some (.cells #[.int .i64 t1.k, .int .i64 t1.c, .int .i64 t1.q, .int .i64 t1.h, .int .i64 t1.a, .int .i64 t1.t, .slice X6 t1.p.length xm6, .slice X7 t1.s.length xm7, .slice X8 t1.r.length xm8] 30 (0, 0))) ∧ (b 4 = true → w'.heap[g7]? = some (.cells #[.int .i64 v1.k, .int .i64 v1.c, .int .i64 v1.q, .int .i64 v1.h, .int .i64 v1.a, .int .i64 v1.t, .slice V6_ v1.p.length vm6_, .slice V7_ v1.s.length vm7_, .slice V8_ v1.r.length vm8_] 30 (0, 0))) ∧ (b 5 = false → w'.heap[g8]? = some (.cells #[.int .i64 t2.k, .int .i64 t2.c, .int .i64 t2.q, .int .i64 t2.h, .int .i64 t2.a, .int .i64 t2.t, .slice Y6 t2.p.length ym6, .slice Y7 t2.s.length ym7, .slice Y8 t2.r.length ym8] 30 (0, 0))) ∧ (b 5 = true → w'.heap[g8]? = some (.cells #[.int .i64 v2.k, .int .i64 v2.c, .int .i64 v2.q, .int .i64 v2.h, .int .i64 v2.a, .int .i64 v2.t, .slice U6_ v2.p.length um6_, .slice U7_ v2.s.length um7_, .slice U8_ v2.r.length um8_] 30 (0, 0))) ∧ (b 1 = true → OffX (some g7) ((v1, (V6_, vm6_), (V7_, vm7_), (V8_, vm8_)) : OpX)) ∧ (b 1 = true → OffX (some g8) ((v1, (V6_, vm6_), (V7_, vm7_), (V8_, vm8_)) : OpX)) ∧ (b 3 = true → OffX (some g7) ((v2, (U6_, um6_), (U7_, um7_), (U8_, um8_)) : OpX)) ∧ (b 3 = true → OffX (some g8) ((v2, (U6_, um6_), (U7_, um7_), (U8_, um8_)) : OpX)) ∧ (b 1 = true → (m1_ : Value) = .agg #[.int .i64 v1.k, .int .i64 v1.c, .int .i64 v1.q, .int .i64 v1.h, .int .i64 v1.a, .int .i64 v1.t, .slice V6_ v1.p.length vm6_, .slice V7_ v1.s.length vm7_, .slice V8_ v1.r.length vm8_]) ∧ (b 3 = true → (m3_ : Value) = .agg #[.int .i64 v2.k, .int .i64 v2.c, .int .i64 v2.q, .int .i64 v2.h, .int .i64 v2.a, .int .i64 v2.t, .slice U6_ v2.p.length um6_, .slice U7_ v2.s.length um7_, .slice U8_ v2.r.length um8_])) HT_.out HW_.out (by kernel_rfl) (by kernel_rfl) ?_ ?_ ?_
        · exact ⟨none, 0, none, 0, none, 0, none, 0, none, 0, none, 0, .bool false, .bool false, by simp only [putSel, Bool.false_eq_true, if_false], below_drew HW.out, fun _ => Lies.below LA.out (below_drew (Below.refl _ _)), fun _ => Lies.below LB.out (below_drew (Below.refl _ _)), fun h_ => absurd h_ (by decide), fun h_ => absurd h_ (by decide), fun _ => F7.out, fun h_ => absurd h_ (by decide), fun _ => F8.out, fun h_ => absurd h_ (by decide), fun h_ => absurd h_ (by decide), fun h_ => absurd h_ (by decide), fun h_ => absurd h_ (by decide), fun h_ => absurd h_ (by decide), fun h_ => absurd h_ (by decide), fun h_ => absurd h_ (by decide)⟩
        · skip
          clear F7 F8 HW LA LB
          refine steps_cons ?_ ?_
          · rintro b a w' ⟨V6_, vm6_, V7_, vm7_, V8_, vm8_, U6_, um6_, U7_, um7_, U8_, um8_, m1_, m3_, ha, Q_HW, Q_LA, Q_LB, Q_L1, Q_L2, Q_F7, Q_F7n, Q_F8, Q_F8n, Q_P17, Q_P18, Q_P27, Q_P28, Q_X1_, Q_X3_⟩ hb_ hon hoff
            refine ⟨_, rfl, fun K hK => ?_⟩
            have e7 : a.tmps[7]? = some (.pointer (some ⟨g7, 0, none⟩)) := by rw [ha]; exact (putSel_off rfl).trans rfl
            replace ha := Aside0.mk ha
            have HW := Aside0.mk Q_HW
            have LA := Aside0.mk (Q_LA (hoff 1 (by kernel_rfl)))
            have LB := Aside0.mk (Q_LB (hoff 3 (by kernel_rfl)))
            have F7 := Aside0.mk (Q_F7 (hoff 4 (by kernel_rfl)))
            have F8 := Aside0.mk (Q_F8 (hoff 5 (by kernel_rfl)))
            obtain ⟨q0, q1, q2, q3, q4, q5, q6, q7, q8⟩ := nine F7.out
            refine value_ (w1 := w') (v := .agg #[.int .i64 t1.k, .int .i64 t1.c, .int .i64 t1.q, .int .i64 t1.h, .int .i64 t1.a, .int .i64 t1.t, .slice X6 t1.p.length xm6, .slice X7 t1.s.length xm7, .slice X8 t1.r.length xm8]) (by rfl) rfl ?_ ?_
            · go_simp
              (try simp only [i64_w])
              try rfl
            refine hK.out _ _ ⟨V6_, vm6_, V7_, vm7_, V8_, vm8_, U6_, um6_, U7_, um7_, U8_, um8_, m1_, m3_, (by rw [ha.out]; exact putSel_upk 0 hb_ rfl rfl rfl), Q_HW, Q_LA, Q_LB, fun h0_ => absurd ((hoff 1 (by kernel_rfl)).symm.trans h0_) (by decide), fun h0_ => absurd ((hoff 3 (by kernel_rfl)).symm.trans h0_) (by decide), Q_F7, fun h0_ => absurd ((hoff 4 (by kernel_rfl)).symm.trans h0_) (by decide), Q_F8, fun h0_ => absurd ((hoff 5 (by kernel_rfl)).symm.trans h0_) (by decide), fun h0_ => absurd ((hoff 1 (by kernel_rfl)).symm.trans h0_) (by decide), fun h0_ => absurd ((hoff 1 (by kernel_rfl)).symm.trans h0_) (by decide), fun h0_ => absurd ((hoff 3 (by kernel_rfl)).symm.trans h0_) (by decide), fun h0_ => absurd ((hoff 3 (by kernel_rfl)).symm.trans h0_) (by decide), fun h0_ => absurd ((hoff 1 (by kernel_rfl)).symm.trans h0_) (by decide), fun h0_ => absurd ((hoff 3 (by kernel_rfl)).symm.trans h0_) (by decide)⟩
          refine steps_cons ?_ ?_
          · rintro b a w' ⟨V6_, vm6_, V7_, vm7_, V8_, vm8_, U6_, um6_, U7_, um7_, U8_, um8_, m1_, m3_, ha, Q_HW, Q_LA, Q_LB, Q_L1, Q_L2, Q_F7, Q_F7n, Q_F8, Q_F8n, Q_P17, Q_P18, Q_P27, Q_P28, Q_X1_, Q_X3_⟩ hb_ hon hoff
            refine ⟨_, rfl, fun K hK => ?_⟩
            have e23 : a.tmps[23]? = some (.agg #[.int .i64 t1.k, .int .i64 t1.c, .int .i64 t1.q, .int .i64 t1.h, .int .i64 t1.a, .int .i64 t1.t, .slice X6 t1.p.length xm6, .slice X7 t1.s.length xm7, .slice X8 t1.r.length xm8]) := by rw [ha]; exact putSel_on (e := (0, 23, .agg #[.int .i64 t1.k, .int .i64 t1.c, .int .i64 t1.q, .int .i64 t1.h, .int .i64 t1.a, .int .i64 t1.t, .slice X6 t1.p.length xm6, .slice X7 t1.s.length xm7, .slice X8 t1.r.length xm8])) 0 rfl rfl (hon 0 (by kernel_rfl)) rfl
            replace ha := Aside0.mk ha
            have HW := Aside0.mk Q_HW
            have LA := Aside0.mk (Q_LA hb_)
            have LB := Aside0.mk (Q_LB (hoff 3 (by kernel_rfl)))
            have F7 := Aside0.mk (Q_F7 (hoff 4 (by kernel_rfl)))
            have F8 := Aside0.mk (Q_F8 (hoff 5 (by kernel_rfl)))
            refine goes_ Tryd.func18 (by kernel_rfl) rfl #[.agg #[.int .i64 t1.k, .int .i64 t1.c, .int .i64 t1.q, .int .i64 t1.h, .int .i64 t1.a, .int .i64 t1.t, .slice X6 t1.p.length xm6, .slice X7 t1.s.length xm7, .slice X8 t1.r.length xm8]] (by rfl) rfl rfl (by simp only [List.map_toArray, List.map_cons, List.map_nil, Act.eval, Array.getD_eq_getD_getElem?, Option.getD_some, e23]) ?_
            refine (HAa.out w' LA.out).mono ?_
            rintro e w2 ⟨q6, p6, q7, p7, q8, p8, rfl, hL, hO, hB⟩
            refine ⟨_, rfl, ?_⟩
            refine hK.out _ _ ⟨q6, p6, q7, p7, q8, p8, U6_, um6_, U7_, um7_, U8_, um8_, (.agg #[.int .i64 v1.k, .int .i64 v1.c, .int .i64 v1.q, .int .i64 v1.h, .int .i64 v1.a, .int .i64 v1.t, .slice q6 v1.p.length p6, .slice q7 v1.s.length p7, .slice q8 v1.r.length p8]), m3_, (by rw [ha.out]; exact putSel_upk 1 hb_ rfl rfl rfl), below_step HW.out hB, fun h0_ => absurd ((up_self b 1).symm.trans h0_) (by decide), fun _ => Lies.below LB.out hB, fun _ => hL, fun h0_ => absurd ((hoff 3 (by kernel_rfl)).symm.trans h0_) (by decide), fun _ => blk_below F7.out hB, fun h0_ => absurd ((hoff 4 (by kernel_rfl)).symm.trans h0_) (by decide), fun _ => blk_below F8.out hB, fun h0_ => absurd ((hoff 5 (by kernel_rfl)).symm.trans h0_) (by decide), fun _ => hO _ O17.out, fun _ => hO _ O18.out, fun h0_ => absurd ((hoff 3 (by kernel_rfl)).symm.trans h0_) (by decide), fun h0_ => absurd ((hoff 3 (by kernel_rfl)).symm.trans h0_) (by decide), fun _ => rfl, fun h0_ => absurd ((hoff 3 (by kernel_rfl)).symm.trans h0_) (by decide)⟩
          refine steps_cons ?_ ?_
          · rintro b a w' ⟨V6_, vm6_, V7_, vm7_, V8_, vm8_, U6_, um6_, U7_, um7_, U8_, um8_, m1_, m3_, ha, Q_HW, Q_LA, Q_LB, Q_L1, Q_L2, Q_F7, Q_F7n, Q_F8, Q_F8n, Q_P17, Q_P18, Q_P27, Q_P28, Q_X1_, Q_X3_⟩ hb_ hon hoff
            refine ⟨_, rfl, fun K hK => ?_⟩
            have e8 : a.tmps[8]? = some (.pointer (some ⟨g8, 0, none⟩)) := by rw [ha]; exact (putSel_off rfl).trans rfl
            replace ha := Aside0.mk ha
            have HW := Aside0.mk Q_HW
            have LB := Aside0.mk (Q_LB (hoff 3 (by kernel_rfl)))
            have F7 := Aside0.mk (Q_F7 (hoff 4 (by kernel_rfl)))
            have F8 := Aside0.mk (Q_F8 (hoff 5 (by kernel_rfl)))
            obtain ⟨q0, q1, q2, q3, q4, q5, q6, q7, q8⟩ := nine F8.out
            refine value_ (w1 := w') (v := .agg #[.int .i64 t2.k, .int .i64 t2.c, .int .i64 t2.q, .int .i64 t2.h, .int .i64 t2.a, .int .i64 t2.t, .slice Y6 t2.p.length ym6, .slice Y7 t2.s.length ym7, .slice Y8 t2.r.length ym8]) (by rfl) rfl ?_ ?_
            · go_simp
              (try simp only [i64_w])
              try rfl
            refine hK.out _ _ ⟨V6_, vm6_, V7_, vm7_, V8_, vm8_, U6_, um6_, U7_, um7_, U8_, um8_, m1_, m3_, (by rw [ha.out]; exact putSel_upk 2 hb_ rfl rfl rfl), Q_HW, Q_LA, Q_LB, Q_L1, fun h0_ => absurd ((hoff 3 (by kernel_rfl)).symm.trans h0_) (by decide), Q_F7, fun h0_ => absurd ((hoff 4 (by kernel_rfl)).symm.trans h0_) (by decide), Q_F8, fun h0_ => absurd ((hoff 5 (by kernel_rfl)).symm.trans h0_) (by decide), Q_P17, Q_P18, fun h0_ => absurd ((hoff 3 (by kernel_rfl)).symm.trans h0_) (by decide), fun h0_ => absurd ((hoff 3 (by kernel_rfl)).symm.trans h0_) (by decide), Q_X1_, fun h0_ => absurd ((hoff 3 (by kernel_rfl)).symm.trans h0_) (by decide)⟩
          refine steps_cons ?_ ?_
          · rintro b a w' ⟨V6_, vm6_, V7_, vm7_, V8_, vm8_, U6_, um6_, U7_, um7_, U8_, um8_, m1_, m3_, ha, Q_HW, Q_LA, Q_LB, Q_L1, Q_L2, Q_F7, Q_F7n, Q_F8, Q_F8n, Q_P17, Q_P18, Q_P27, Q_P28, Q_X1_, Q_X3_⟩ hb_ hon hoff
            refine ⟨_, rfl, fun K hK => ?_⟩
            have e25 : a.tmps[25]? = some (.agg #[.int .i64 t2.k, .int .i64 t2.c, .int .i64 t2.q, .int .i64 t2.h, .int .i64 t2.a, .int .i64 t2.t, .slice Y6 t2.p.length ym6, .slice Y7 t2.s.length ym7, .slice Y8 t2.r.length ym8]) := by rw [ha]; exact putSel_on (e := (2, 25, .agg #[.int .i64 t2.k, .int .i64 t2.c, .int .i64 t2.q, .int .i64 t2.h, .int .i64 t2.a, .int .i64 t2.t, .slice Y6 t2.p.length ym6, .slice Y7 t2.s.length ym7, .slice Y8 t2.r.length ym8])) 2 rfl rfl (hon 2 (by kernel_rfl)) rfl
            replace ha := Aside0.mk ha
            have HW := Aside0.mk Q_HW
            have LB := Aside0.mk (Q_LB hb_)
            have L1 := Aside0.mk (Q_L1 (hon 1 (by kernel_rfl)))
            have F7 := Aside0.mk (Q_F7 (hoff 4 (by kernel_rfl)))
            have F8 := Aside0.mk (Q_F8 (hoff 5 (by kernel_rfl)))
            have P17 := Aside0.mk (Q_P17 (hon 1 (by kernel_rfl)))
            have P18 := Aside0.mk (Q_P18 (hon 1 (by kernel_rfl)))
            refine goes_ Tryd.func18 (by kernel_rfl) rfl #[.agg #[.int .i64 t2.k, .int .i64 t2.c, .int .i64 t2.q, .int .i64 t2.h, .int .i64 t2.a, .int .i64 t2.t, .slice Y6 t2.p.length ym6, .slice Y7 t2.s.length ym7, .slice Y8 t2.r.length ym8]] (by rfl) rfl rfl (by simp only [List.map_toArray, List.map_cons, List.map_nil, Act.eval, Array.getD_eq_getD_getElem?, Option.getD_some, e25]) ?_
            refine (HAb.out w' LB.out).mono ?_
            rintro e w2 ⟨q6, p6, q7, p7, q8, p8, rfl, hL, hO, hB⟩
            refine ⟨_, rfl, ?_⟩
            refine hK.out _ _ ⟨V6_, vm6_, V7_, vm7_, V8_, vm8_, q6, p6, q7, p7, q8, p8, m1_, (.agg #[.int .i64 v2.k, .int .i64 v2.c, .int .i64 v2.q, .int .i64 v2.h, .int .i64 v2.a, .int .i64 v2.t, .slice q6 v2.p.length p6, .slice q7 v2.s.length p7, .slice q8 v2.r.length p8]), (by rw [ha.out]; exact putSel_upk 3 hb_ rfl rfl rfl), below_step HW.out hB, fun h0_ => absurd ((hon 1 (by kernel_rfl)).symm.trans h0_) (by decide), fun h0_ => absurd ((up_self b 3).symm.trans h0_) (by decide), fun _ => Lies.below L1.out hB, fun _ => hL, fun _ => blk_below F7.out hB, fun h0_ => absurd ((hoff 4 (by kernel_rfl)).symm.trans h0_) (by decide), fun _ => blk_below F8.out hB, fun h0_ => absurd ((hoff 5 (by kernel_rfl)).symm.trans h0_) (by decide), Q_P17, Q_P18, fun _ => hO _ O27.out, fun _ => hO _ O28.out, Q_X1_, fun _ => rfl⟩
          refine steps_cons ?_ ?_
          · rintro b a w' ⟨V6_, vm6_, V7_, vm7_, V8_, vm8_, U6_, um6_, U7_, um7_, U8_, um8_, m1_, m3_, ha, Q_HW, Q_LA, Q_LB, Q_L1, Q_L2, Q_F7, Q_F7n, Q_F8, Q_F8n, Q_P17, Q_P18, Q_P27, Q_P28, Q_X1_, Q_X3_⟩ hb_ hon hoff
            refine ⟨_, rfl, fun K hK => ?_⟩
            have e7 : a.tmps[7]? = some (.pointer (some ⟨g7, 0, none⟩)) := by rw [ha]; exact (putSel_off rfl).trans rfl
            have e24 : a.tmps[24]? = some (m1_) := by rw [ha]; exact putSel_on (e := (1, 24, m1_)) 1 rfl rfl (hon 1 (by kernel_rfl)) rfl
            rw [Q_X1_ (hon 1 (by kernel_rfl))] at e24
            replace ha := Aside0.mk ha
            have HW := Aside0.mk Q_HW
            have L1 := Aside0.mk (Q_L1 (hon 1 (by kernel_rfl)))
            have L2 := Aside0.mk (Q_L2 (hon 3 (by kernel_rfl)))
            have F7 := Aside0.mk (Q_F7 hb_)
            have F8 := Aside0.mk (Q_F8 (hoff 5 (by kernel_rfl)))
            have P17 := Aside0.mk (Q_P17 (hon 1 (by kernel_rfl)))
            have P18 := Aside0.mk (Q_P18 (hon 1 (by kernel_rfl)))
            have P27 := Aside0.mk (Q_P27 (hon 3 (by kernel_rfl)))
            have P28 := Aside0.mk (Q_P28 (hon 3 (by kernel_rfl)))
            obtain ⟨z0, z1, z2, z3, z4, z5, z6, z7, z8⟩ := nine F7.out
            obtain ⟨f0, f1, f2, f3, f4, f5, f6, f7, f8⟩ := nineF F7.out
            have hl := blk_lt F7.out
            refine skip_ (w1 := (((((((((w'.setCell ⟨g7, 0, none⟩ (Value.int .i64 v1.k)).setCell ⟨g7, 1, none⟩ (Value.int .i64 v1.c)).setCell ⟨g7, 2, none⟩ (Value.int .i64 v1.q)).setCell ⟨g7, 3, none⟩ (Value.int .i64 v1.h)).setCell ⟨g7, 4, none⟩ (Value.int .i64 v1.a)).setCell ⟨g7, 5, none⟩ (Value.int .i64 v1.t)).setCell ⟨g7, 6, none⟩ (Value.slice V6_ v1.p.length vm6_)).setCell ⟨g7, 7, none⟩ (Value.slice V7_ v1.s.length vm7_)).setCell ⟨g7, 8, none⟩ (Value.slice V8_ v1.r.length vm8_))) (by rfl) rfl (by go_simp) ?_
            refine hK.out _ _ ⟨V6_, vm6_, V7_, vm7_, V8_, vm8_, U6_, um6_, U7_, um7_, U8_, um8_, m1_, m3_, (by rw [ha.out]; exact putSel_none (v := undef) rfl), (below_set (below_set (below_set (below_set (below_set (below_set (below_set (below_set (below_set HW.out G7.out) G7.out) G7.out) G7.out) G7.out) G7.out) G7.out) G7.out) G7.out), fun h0_ => absurd ((hon 1 (by kernel_rfl)).symm.trans h0_) (by decide), fun h0_ => absurd ((hon 3 (by kernel_rfl)).symm.trans h0_) (by decide), fun _ => Lies_off L1.out (put9 F7.out (.int .i64 v1.k) (.int .i64 v1.c) (.int .i64 v1.q) (.int .i64 v1.h) (.int .i64 v1.a) (.int .i64 v1.t) (.slice V6_ v1.p.length vm6_) (.slice V7_ v1.s.length vm7_) (.slice V8_ v1.r.length vm8_)).1 P17.out, fun _ => Lies_off L2.out (put9 F7.out (.int .i64 v1.k) (.int .i64 v1.c) (.int .i64 v1.q) (.int .i64 v1.h) (.int .i64 v1.a) (.int .i64 v1.t) (.slice V6_ v1.p.length vm6_) (.slice V7_ v1.s.length vm7_) (.slice V8_ v1.r.length vm8_)).1 P27.out, fun h0_ => absurd ((up_self b 4).symm.trans h0_) (by decide), fun _ => (put9 F7.out (.int .i64 v1.k) (.int .i64 v1.c) (.int .i64 v1.q) (.int .i64 v1.h) (.int .i64 v1.a) (.int .i64 v1.t) (.slice V6_ v1.p.length vm6_) (.slice V7_ v1.s.length vm7_) (.slice V8_ v1.r.length vm8_)).2.1, fun _ => KeepBut.blk (put9 F7.out (.int .i64 v1.k) (.int .i64 v1.c) (.int .i64 v1.q) (.int .i64 v1.h) (.int .i64 v1.a) (.int .i64 v1.t) (.slice V6_ v1.p.length vm6_) (.slice V7_ v1.s.length vm7_) (.slice V8_ v1.r.length vm8_)).1 F8.out (Ne.symm N78.out) (by simp), fun h0_ => absurd ((hoff 5 (by kernel_rfl)).symm.trans h0_) (by decide), Q_P17, Q_P18, Q_P27, Q_P28, Q_X1_, Q_X3_⟩
          refine steps_cons ?_ ?_
          · rintro b a w' ⟨V6_, vm6_, V7_, vm7_, V8_, vm8_, U6_, um6_, U7_, um7_, U8_, um8_, m1_, m3_, ha, Q_HW, Q_LA, Q_LB, Q_L1, Q_L2, Q_F7, Q_F7n, Q_F8, Q_F8n, Q_P17, Q_P18, Q_P27, Q_P28, Q_X1_, Q_X3_⟩ hb_ hon hoff
            refine ⟨_, rfl, fun K hK => ?_⟩
            have e8 : a.tmps[8]? = some (.pointer (some ⟨g8, 0, none⟩)) := by rw [ha]; exact (putSel_off rfl).trans rfl
            have e26 : a.tmps[26]? = some (m3_) := by rw [ha]; exact putSel_on (e := (3, 26, m3_)) 3 rfl rfl (hon 3 (by kernel_rfl)) rfl
            rw [Q_X3_ (hon 3 (by kernel_rfl))] at e26
            replace ha := Aside0.mk ha
            have HW := Aside0.mk Q_HW
            have L1 := Aside0.mk (Q_L1 (hon 1 (by kernel_rfl)))
            have L2 := Aside0.mk (Q_L2 (hon 3 (by kernel_rfl)))
            have F7n := Aside0.mk (Q_F7n (hon 4 (by kernel_rfl)))
            have F8 := Aside0.mk (Q_F8 hb_)
            have P17 := Aside0.mk (Q_P17 (hon 1 (by kernel_rfl)))
            have P18 := Aside0.mk (Q_P18 (hon 1 (by kernel_rfl)))
            have P27 := Aside0.mk (Q_P27 (hon 3 (by kernel_rfl)))
            have P28 := Aside0.mk (Q_P28 (hon 3 (by kernel_rfl)))
            obtain ⟨z0, z1, z2, z3, z4, z5, z6, z7, z8⟩ := nine F8.out
            obtain ⟨f0, f1, f2, f3, f4, f5, f6, f7, f8⟩ := nineF F8.out
            have hl := blk_lt F8.out
            refine skip_ (w1 := (((((((((w'.setCell ⟨g8, 0, none⟩ (Value.int .i64 v2.k)).setCell ⟨g8, 1, none⟩ (Value.int .i64 v2.c)).setCell ⟨g8, 2, none⟩ (Value.int .i64 v2.q)).setCell ⟨g8, 3, none⟩ (Value.int .i64 v2.h)).setCell ⟨g8, 4, none⟩ (Value.int .i64 v2.a)).setCell ⟨g8, 5, none⟩ (Value.int .i64 v2.t)).setCell ⟨g8, 6, none⟩ (Value.slice U6_ v2.p.length um6_)).setCell ⟨g8, 7, none⟩ (Value.slice U7_ v2.s.length um7_)).setCell ⟨g8, 8, none⟩ (Value.slice U8_ v2.r.length um8_))) (by rfl) rfl (by go_simp) ?_
            refine hK.out _ _ ⟨V6_, vm6_, V7_, vm7_, V8_, vm8_, U6_, um6_, U7_, um7_, U8_, um8_, m1_, m3_, (by rw [ha.out]; exact putSel_none (v := undef) rfl), (below_set (below_set (below_set (below_set (below_set (below_set (below_set (below_set (below_set HW.out G8.out) G8.out) G8.out) G8.out) G8.out) G8.out) G8.out) G8.out) G8.out), fun h0_ => absurd ((hon 1 (by kernel_rfl)).symm.trans h0_) (by decide), fun h0_ => absurd ((hon 3 (by kernel_rfl)).symm.trans h0_) (by decide), fun _ => Lies_off L1.out (put9 F8.out (.int .i64 v2.k) (.int .i64 v2.c) (.int .i64 v2.q) (.int .i64 v2.h) (.int .i64 v2.a) (.int .i64 v2.t) (.slice U6_ v2.p.length um6_) (.slice U7_ v2.s.length um7_) (.slice U8_ v2.r.length um8_)).1 P18.out, fun _ => Lies_off L2.out (put9 F8.out (.int .i64 v2.k) (.int .i64 v2.c) (.int .i64 v2.q) (.int .i64 v2.h) (.int .i64 v2.a) (.int .i64 v2.t) (.slice U6_ v2.p.length um6_) (.slice U7_ v2.s.length um7_) (.slice U8_ v2.r.length um8_)).1 P28.out, fun h0_ => absurd ((hon 4 (by kernel_rfl)).symm.trans h0_) (by decide), fun _ => KeepBut.blk (put9 F8.out (.int .i64 v2.k) (.int .i64 v2.c) (.int .i64 v2.q) (.int .i64 v2.h) (.int .i64 v2.a) (.int .i64 v2.t) (.slice U6_ v2.p.length um6_) (.slice U7_ v2.s.length um7_) (.slice U8_ v2.r.length um8_)).1 F7n.out N78.out (by simp), fun h0_ => absurd ((up_self b 5).symm.trans h0_) (by decide), fun _ => (put9 F8.out (.int .i64 v2.k) (.int .i64 v2.c) (.int .i64 v2.q) (.int .i64 v2.h) (.int .i64 v2.a) (.int .i64 v2.t) (.slice U6_ v2.p.length um6_) (.slice U7_ v2.s.length um7_) (.slice U8_ v2.r.length um8_)).2.1, Q_P17, Q_P18, Q_P27, Q_P28, Q_X1_, Q_X3_⟩
          exact steps_nil
        · rintro b a w' hall ⟨V6_, vm6_, V7_, vm7_, V8_, vm8_, U6_, um6_, U7_, um7_, U8_, um8_, m1_, m3_, ha, Q_HW, Q_LA, Q_LB, Q_L1, Q_L2, Q_F7, Q_F7n, Q_F8, Q_F8n, Q_P17, Q_P18, Q_P27, Q_P28, Q_X1_, Q_X3_⟩
          clear F7 F8 HW LA LB
          have hb0_ := hall 0 (by kernel_rfl)
          have hb1_ := hall 1 (by kernel_rfl)
          have hb2_ := hall 2 (by kernel_rfl)
          have hb3_ := hall 3 (by kernel_rfl)
          have hb4_ := hall 4 (by kernel_rfl)
          have hb5_ := hall 5 (by kernel_rfl)
          subst ha
          obtain rfl := Q_X1_ hb1_
          obtain rfl := Q_X3_ hb3_
          simp only [putSel, hb0_, hb1_, hb2_, hb3_, hb4_, hb5_, if_true, Act.put, List.setIfInBounds_toArray, List.set_cons_zero, List.set_cons_succ]
          have HW := Aside0.mk Q_HW
          clear Q_HW
          clear Q_LA
          clear Q_LB
          have L1 := Aside0.mk (Q_L1 hb1_)
          clear Q_L1
          have L2 := Aside0.mk (Q_L2 hb3_)
          clear Q_L2
          clear Q_F7
          have F7n := Aside0.mk (Q_F7n hb4_)
          clear Q_F7n
          clear Q_F8
          have F8n := Aside0.mk (Q_F8n hb5_)
          clear Q_F8n
          have P17 := Aside0.mk (Q_P17 hb1_)
          clear Q_P17
          have P18 := Aside0.mk (Q_P18 hb1_)
          clear Q_P18
          have P27 := Aside0.mk (Q_P27 hb3_)
          clear Q_P27
          have P28 := Aside0.mk (Q_P28 hb3_)
          clear Q_P28
          clear hall hb0_ hb1_ hb2_ hb3_ hb4_ hb5_
          go_wp2
          go_meet
          case rel => exact ⟨v1, v2, V6_, vm6_, V7_, vm7_, V8_, vm8_, U6_, um6_, U7_, um7_, U8_, um8_, S1v, W1v, Y1v, S2v, W2v, Y2v, HW, L1, L2, F7n, F8n⟩
    case rest =>
      obtain ⟨u1, u2, V6, vm6, V7, vm7, V8, vm8, U6, um6, U7, um7, U8, um8, T1, D1, E1, T2, D2, E2, HW, L1', L2', F7', F8'⟩ := hcut
      clear HW1 L1 L2 F7 F8 P17 P18 P27 P28 S1 S2 W1 W2 Y1 Y2
      have L1 := L1'
      have L2 := L2'
      have F7 := F7'
      have F8 := F8'
      have HW0 := HW
      clear L1' L2' F7' F8' HW
      obtain ⟨s1, hs1⟩ : ∃ t, askd u1 = t := ⟨_, rfl⟩
      obtain ⟨sb, hsb⟩ : ∃ b, sameD u1 s1 = b := ⟨_, rfl⟩
      have HSB := Lib.hid hsb
      have HRT : Hid (rightD u1 = (known u1.k && sb && kindsOk u1.p)) := Lib.hid (by rw [right_small T1.out, hs1, hsb])
      have HAs : Hid (∀ W, Lies W u1 V6 V7 V8 → Calls Tryd.prog 18 #[.agg #[.int .i64 u1.k, .int .i64 u1.c, .int .i64 u1.q, .int .i64 u1.h, .int .i64 u1.a, .int .i64 u1.t, .slice V6 u1.p.length vm6, .slice V7 u1.s.length vm7, .slice V8 u1.r.length vm8]] W fun e w' => ∃ (q6 : Option Addr) (p6 : Nat) (q7 : Option Addr) (p7 : Nat) (q8 : Option Addr) (p8 : Nat), e = .returned (.agg #[.int .i64 s1.k, .int .i64 s1.c, .int .i64 s1.q, .int .i64 s1.h, .int .i64 s1.a, .int .i64 s1.t, .slice q6 s1.p.length p6, .slice q7 s1.s.length p7, .slice q8 s1.r.length p8]) ∧ Lies w' s1 q6 q7 q8 ∧ Below W.heap.size W w') := Lib.hid (fun W h => by
        have := asked_any u1 V6 vm6 V7 vm7 V8 vm8 W h
        rw [hs1] at this
        exact this)
      obtain ⟨r0, hr0⟩ : ∃ b, (known u1.k && sb) = b := ⟨_, rfl⟩
      clear hs1 hsb
      go_upto_region 4 with fail
      go_cut [9] from 27 to 40 (fun v wx => v = .bool r0 ∧ Aside0 (Below wd.heap.size wd wx) ∧ Aside0 (LiesX wx ((u1, (V6, vm6), (V7, vm7), (V8, vm8)) : OpX)) ∧ Aside0 (LiesX wx ((u2, (U6, um6), (U7, um7), (U8, um8)) : OpX)) ∧ Aside0 (wx.heap[g7]? = some (.cells #[.int .i64 u1.k, .int .i64 u1.c, .int .i64 u1.q, .int .i64 u1.h, .int .i64 u1.a, .int .i64 u1.t, .slice V6 u1.p.length vm6, .slice V7 u1.s.length vm7, .slice V8 u1.r.length vm8] 30 (0, 0))) ∧ Aside0 (wx.heap[g8]? = some (.cells #[.int .i64 u2.k, .int .i64 u2.c, .int .i64 u2.q, .int .i64 u2.h, .int .i64 u2.a, .int .i64 u2.t, .slice U6 u2.p.length um6, .slice U7 u2.s.length um7, .slice U8 u2.r.length um8] 30 (0, 0))))
      case first =>
        have q0 := (blk_cell F7.out 0).trans (rfl : _ = some (Value.int .i64 u1.k))
        by_cases h1 : 1 ≤ u1.k
        · have d1 : decide (u1.k ≥ 1) = true := decide_eq_true h1
          by_cases h9 : u1.k ≤ 9
          · have d9 : decide (u1.k ≤ 9) = true := decide_eq_true h9
            obtain rfl : sb = r0 := by rw [← hr0]; simp [known, h1, h9]
            obtain ⟨wk, hwk⟩ : ∃ W, W = wc := ⟨_, rfl⟩
            have HW := Aside0.mk (Below.refl wc.heap.size wc)
            clear hwk hr0 q0
            refine start_ (n := 15) (S := fun w' => True) (ds := []) #[false, false, false, false, false, false, false, false, false, false, false, false, false, false, false] (by kernel_rfl) rfl rfl trivial (fun hHeld => ?_)
            refine with_tabW bk4Reg.tab4 bk4Reg.bits4 (fun HT_ HW_ => ?_)
            refine pure_ (i := 0) (N := some 27) (v := ?_) (a' := ?_) #[true, false, false, false, false, false, false, false, false, false, false, false, false, false, false] rfl rfl (any_of HT_.out (by kernel_rfl)) (fun _ _ _ h => h) (Or.inl ⟨by rfl, ?_⟩) ?_ ?_
            rotate_left
            · intro w'
              go_simp
              with_reducible rfl
            rotate_left
            · simp only [Act.put, List.setIfInBounds_toArray, List.set_cons_zero, List.set_cons_succ, i64_w, i32_w]
              rfl
            refine inv_at [1, 2, 3, 4, 5, 6, 7, 8, 9, 10, 11, 12, 13, 14] (fun a0_ b a w' => ∃ (S6_ : Option Addr) (sm6_ : Nat) (S7_ : Option Addr) (sm7_ : Nat) (S8_ : Option Addr) (sm8_ : Nat) (m11_ : Value), a = putSel a0_ b [(1, 28, .int .i64 u1.k), (2, 29, .bool true), (3, 30, .bool true), (4, 31, .pointer (some ⟨g7, 0, none⟩)), (5, 32, .int .i64 u1.k), (6, 33, .bool true), (7, 34, .bool true), (8, 35, .bool true), (9, 36, .agg #[.int .i64 u1.k, .int .i64 u1.c, .int .i64 u1.q, .int .i64 u1.h, .int .i64 u1.a, .int .i64 u1.t, .slice V6 u1.p.length vm6, .slice V7 u1.s.length vm7, .slice V8 u1.r.length vm8]), (10, 37, .agg #[.int .i64 u1.k, .int .i64 u1.c, .int .i64 u1.q, .int .i64 u1.h, .int .i64 u1.a, .int .i64 u1.t, .slice V6 u1.p.length vm6, .slice V7 u1.s.length vm7, .slice V8 u1.r.length vm8]), (11, 38, m11_), (12, 39, .bool sb), (13, 40, .bool sb), (14, 9, .bool sb)] ∧ (Below wc.heap.size wc w') ∧ (b 11 = true → b 12 = false → Lies w' s1 S6_ S7_ S8_) ∧ (b 11 = true → (m11_ : Value) = .agg #[.int .i64 s1.k, .int .i64 s1.c, .int .i64 s1.q, .int .i64 s1.h, .int .i64 s1.a, .int .i64 s1.t, .slice S6_ s1.p.length sm6_, .slice S7_ s1.s.length sm7_, .slice S8_ s1.r.length sm8_])) HT_.out HW_.out (by kernel_rfl) (by kernel_rfl) ?_ ?_ ?_
            · exact ⟨none, 0, none, 0, none, 0, .bool false, by simp only [putSel, Bool.false_eq_true, if_false], below_drew HW.out, fun h_ => absurd h_ (by decide), fun h_ => absurd h_ (by decide)⟩
            · skip
              clear HW
              refine steps_cons ?_ ?_
              · rintro b a w' ⟨S6_, sm6_, S7_, sm7_, S8_, sm8_, m11_, ha, Q_HW, Q_LS, Q_X11_⟩ hb_ hon hoff
                refine ⟨_, rfl, fun K hK => ?_⟩
                have e27 : a.tmps[27]? = some (.pointer (some ⟨g7, 0, none⟩)) := by rw [ha]; exact (putSel_off rfl).trans rfl
                replace ha := Aside0.mk ha
                have HW := Aside0.mk Q_HW
                obtain ⟨q0, q1, q2, q3, q4, q5, q6, q7, q8⟩ := nine (blk_below F7.out HW.out)
                refine value_ (w1 := w') (v := .int .i64 u1.k) (by rfl) rfl ?_ ?_
                · go_simp
                  (try simp only [i64_w])
                  try rfl
                refine hK.out _ _ ⟨S6_, sm6_, S7_, sm7_, S8_, sm8_, m11_, (by rw [ha.out]; exact putSel_upk 0 hb_ rfl rfl rfl), Q_HW, fun h0_ _ => absurd ((hoff 11 (by kernel_rfl)).symm.trans h0_) (by decide), fun h0_ => absurd ((hoff 11 (by kernel_rfl)).symm.trans h0_) (by decide)⟩
              refine steps_cons ?_ ?_
              · rintro b a w' ⟨S6_, sm6_, S7_, sm7_, S8_, sm8_, m11_, ha, Q_HW, Q_LS, Q_X11_⟩ hb_ hon hoff
                refine ⟨_, rfl, fun K hK => ?_⟩
                have e28 : a.tmps[28]? = some (.int .i64 u1.k) := by rw [ha]; exact putSel_on (e := (1, 28, .int .i64 u1.k)) 0 rfl rfl (hon 1 (by kernel_rfl)) rfl
                replace ha := Aside0.mk ha
                have HW := Aside0.mk Q_HW
                refine value_ (w1 := w') (v := .bool true) (by rfl) rfl ?_ ?_
                · go_simp
                  (try simp only [i64_w])
                  try rfl
                refine hK.out _ _ ⟨S6_, sm6_, S7_, sm7_, S8_, sm8_, m11_, (by rw [ha.out]; exact putSel_upk 1 hb_ rfl rfl rfl), Q_HW, fun h0_ _ => absurd ((hoff 11 (by kernel_rfl)).symm.trans h0_) (by decide), fun h0_ => absurd ((hoff 11 (by kernel_rfl)).symm.trans h0_) (by decide)⟩
              refine steps_cons ?_ ?_
              · rintro b a w' ⟨S6_, sm6_, S7_, sm7_, S8_, sm8_, m11_, ha, Q_HW, Q_LS, Q_X11_⟩ hb_ hon hoff
                refine ⟨_, rfl, fun K hK => ?_⟩
                have e29 : a.tmps[29]? = some (.bool true) := by rw [ha]; exact putSel_on (e := (2, 29, .bool true)) 1 rfl rfl (hon 2 (by kernel_rfl)) rfl
                replace ha := Aside0.mk ha
                have HW := Aside0.mk Q_HW
                refine value_ (w1 := w') (v := .bool true) (by rfl) rfl ?_ ?_
                · go_simp
                  (try simp only [i64_w])
                  try rfl
                refine hK.out _ _ ⟨S6_, sm6_, S7_, sm7_, S8_, sm8_, m11_, (by rw [ha.out]; exact putSel_upk 2 hb_ rfl rfl rfl), Q_HW, fun h0_ _ => absurd ((hoff 11 (by kernel_rfl)).symm.trans h0_) (by decide), fun h0_ => absurd ((hoff 11 (by kernel_rfl)).symm.trans h0_) (by decide)⟩
              refine steps_cons ?_ ?_
              · rintro b a w' ⟨S6_, sm6_, S7_, sm7_, S8_, sm8_, m11_, ha, Q_HW, Q_LS, Q_X11_⟩ hb_ hon hoff
                refine ⟨_, rfl, fun K hK => ?_⟩
                have e7 : a.tmps[7]? = some (.pointer (some ⟨g7, 0, none⟩)) := by rw [ha]; exact (putSel_off rfl).trans rfl
                have e30 : a.tmps[30]? = some (.bool true) := by rw [ha]; exact putSel_on (e := (3, 30, .bool true)) 2 rfl rfl (hon 3 (by kernel_rfl)) rfl
                replace ha := Aside0.mk ha
                have HW := Aside0.mk Q_HW
                refine value_ (w1 := w') (v := .pointer (some ⟨g7, 0, none⟩)) (wanted_on rfl rfl rfl (e30.trans (by first | rfl | (simp [*]; done)))) rfl ?_ ?_
                · go_simp
                  (try simp only [i64_w])
                  try rfl
                refine hK.out _ _ ⟨S6_, sm6_, S7_, sm7_, S8_, sm8_, m11_, (by rw [ha.out]; exact putSel_upk 3 hb_ rfl rfl rfl), Q_HW, fun h0_ _ => absurd ((hoff 11 (by kernel_rfl)).symm.trans h0_) (by decide), fun h0_ => absurd ((hoff 11 (by kernel_rfl)).symm.trans h0_) (by decide)⟩
              refine steps_cons ?_ ?_
              · rintro b a w' ⟨S6_, sm6_, S7_, sm7_, S8_, sm8_, m11_, ha, Q_HW, Q_LS, Q_X11_⟩ hb_ hon hoff
                refine ⟨_, rfl, fun K hK => ?_⟩
                have e31 : a.tmps[31]? = some (.pointer (some ⟨g7, 0, none⟩)) := by rw [ha]; exact putSel_on (e := (4, 31, .pointer (some ⟨g7, 0, none⟩))) 3 rfl rfl (hon 4 (by kernel_rfl)) rfl
                have e30 : a.tmps[30]? = some (.bool true) := by rw [ha]; exact putSel_on (e := (3, 30, .bool true)) 2 rfl rfl (hon 3 (by kernel_rfl)) rfl
                replace ha := Aside0.mk ha
                have HW := Aside0.mk Q_HW
                obtain ⟨q0, q1, q2, q3, q4, q5, q6, q7, q8⟩ := nine (blk_below F7.out HW.out)
                refine value_ (w1 := w') (v := .int .i64 u1.k) (wanted_on rfl rfl rfl (e30.trans (by first | rfl | (simp [*]; done)))) rfl ?_ ?_
                · go_simp
                  (try simp only [i64_w])
                  try rfl
                refine hK.out _ _ ⟨S6_, sm6_, S7_, sm7_, S8_, sm8_, m11_, (by rw [ha.out]; exact putSel_upk 4 hb_ rfl rfl rfl), Q_HW, fun h0_ _ => absurd ((hoff 11 (by kernel_rfl)).symm.trans h0_) (by decide), fun h0_ => absurd ((hoff 11 (by kernel_rfl)).symm.trans h0_) (by decide)⟩
              refine steps_cons ?_ ?_
              · rintro b a w' ⟨S6_, sm6_, S7_, sm7_, S8_, sm8_, m11_, ha, Q_HW, Q_LS, Q_X11_⟩ hb_ hon hoff
                refine ⟨_, rfl, fun K hK => ?_⟩
                have e32 : a.tmps[32]? = some (.int .i64 u1.k) := by rw [ha]; exact putSel_on (e := (5, 32, .int .i64 u1.k)) 4 rfl rfl (hon 5 (by kernel_rfl)) rfl
                have e30 : a.tmps[30]? = some (.bool true) := by rw [ha]; exact putSel_on (e := (3, 30, .bool true)) 2 rfl rfl (hon 3 (by kernel_rfl)) rfl
                replace ha := Aside0.mk ha
                have HW := Aside0.mk Q_HW
                refine value_ (w1 := w') (v := .bool true) (wanted_on rfl rfl rfl (e30.trans (by first | rfl | (simp [*]; done)))) rfl ?_ ?_
                · go_simp
                  (try simp only [i64_w])
                  try rfl
                refine hK.out _ _ ⟨S6_, sm6_, S7_, sm7_, S8_, sm8_, m11_, (by rw [ha.out]; exact putSel_upk 5 hb_ rfl rfl rfl), Q_HW, fun h0_ _ => absurd ((hoff 11 (by kernel_rfl)).symm.trans h0_) (by decide), fun h0_ => absurd ((hoff 11 (by kernel_rfl)).symm.trans h0_) (by decide)⟩
              refine steps_cons ?_ ?_
              · rintro b a w' ⟨S6_, sm6_, S7_, sm7_, S8_, sm8_, m11_, ha, Q_HW, Q_LS, Q_X11_⟩ hb_ hon hoff
                refine ⟨_, rfl, fun K hK => ?_⟩
                have e30 : a.tmps[30]? = some (.bool true) := by rw [ha]; exact putSel_on (e := (3, 30, .bool true)) 2 rfl rfl (hon 3 (by kernel_rfl)) rfl
                have e33 : a.tmps[33]? = some (.bool true) := by rw [ha]; exact putSel_on (e := (6, 33, .bool true)) 5 rfl rfl (hon 6 (by kernel_rfl)) rfl
                replace ha := Aside0.mk ha
                have HW := Aside0.mk Q_HW
                refine value_ (w1 := w') (v := .bool true) (by rfl) rfl ?_ ?_
                · go_simp
                  (try simp only [i64_w])
                  try rfl
                refine hK.out _ _ ⟨S6_, sm6_, S7_, sm7_, S8_, sm8_, m11_, (by rw [ha.out]; exact putSel_upk 6 hb_ rfl rfl rfl), Q_HW, fun h0_ _ => absurd ((hoff 11 (by kernel_rfl)).symm.trans h0_) (by decide), fun h0_ => absurd ((hoff 11 (by kernel_rfl)).symm.trans h0_) (by decide)⟩
              refine steps_cons ?_ ?_
              · rintro b a w' ⟨S6_, sm6_, S7_, sm7_, S8_, sm8_, m11_, ha, Q_HW, Q_LS, Q_X11_⟩ hb_ hon hoff
                refine ⟨_, rfl, fun K hK => ?_⟩
                have e34 : a.tmps[34]? = some (.bool true) := by rw [ha]; exact putSel_on (e := (7, 34, .bool true)) 6 rfl rfl (hon 7 (by kernel_rfl)) rfl
                replace ha := Aside0.mk ha
                have HW := Aside0.mk Q_HW
                refine value_ (w1 := w') (v := .bool true) (by rfl) rfl ?_ ?_
                · go_simp
                  (try simp only [i64_w])
                  try rfl
                refine hK.out _ _ ⟨S6_, sm6_, S7_, sm7_, S8_, sm8_, m11_, (by rw [ha.out]; exact putSel_upk 7 hb_ rfl rfl rfl), Q_HW, fun h0_ _ => absurd ((hoff 11 (by kernel_rfl)).symm.trans h0_) (by decide), fun h0_ => absurd ((hoff 11 (by kernel_rfl)).symm.trans h0_) (by decide)⟩
              refine steps_cons ?_ ?_
              · rintro b a w' ⟨S6_, sm6_, S7_, sm7_, S8_, sm8_, m11_, ha, Q_HW, Q_LS, Q_X11_⟩ hb_ hon hoff
                refine ⟨_, rfl, fun K hK => ?_⟩
                have e7 : a.tmps[7]? = some (.pointer (some ⟨g7, 0, none⟩)) := by rw [ha]; exact (putSel_off rfl).trans rfl
                have e35 : a.tmps[35]? = some (.bool true) := by rw [ha]; exact putSel_on (e := (8, 35, .bool true)) 7 rfl rfl (hon 8 (by kernel_rfl)) rfl
                replace ha := Aside0.mk ha
                have HW := Aside0.mk Q_HW
                obtain ⟨q0, q1, q2, q3, q4, q5, q6, q7, q8⟩ := nine (blk_below F7.out HW.out)
                refine value_ (w1 := w') (v := .agg #[.int .i64 u1.k, .int .i64 u1.c, .int .i64 u1.q, .int .i64 u1.h, .int .i64 u1.a, .int .i64 u1.t, .slice V6 u1.p.length vm6, .slice V7 u1.s.length vm7, .slice V8 u1.r.length vm8]) (wanted_on rfl rfl rfl (e35.trans (by first | rfl | (simp [*]; done)))) rfl ?_ ?_
                · go_simp
                  (try simp only [i64_w])
                  try rfl
                refine hK.out _ _ ⟨S6_, sm6_, S7_, sm7_, S8_, sm8_, m11_, (by rw [ha.out]; exact putSel_upk 8 hb_ rfl rfl rfl), Q_HW, Q_LS, Q_X11_⟩
              refine steps_cons ?_ ?_
              · rintro b a w' ⟨S6_, sm6_, S7_, sm7_, S8_, sm8_, m11_, ha, Q_HW, Q_LS, Q_X11_⟩ hb_ hon hoff
                refine ⟨_, rfl, fun K hK => ?_⟩
                have e7 : a.tmps[7]? = some (.pointer (some ⟨g7, 0, none⟩)) := by rw [ha]; exact (putSel_off rfl).trans rfl
                have e35 : a.tmps[35]? = some (.bool true) := by rw [ha]; exact putSel_on (e := (8, 35, .bool true)) 7 rfl rfl (hon 8 (by kernel_rfl)) rfl
                replace ha := Aside0.mk ha
                have HW := Aside0.mk Q_HW
                obtain ⟨q0, q1, q2, q3, q4, q5, q6, q7, q8⟩ := nine (blk_below F7.out HW.out)
                refine value_ (w1 := w') (v := .agg #[.int .i64 u1.k, .int .i64 u1.c, .int .i64 u1.q, .int .i64 u1.h, .int .i64 u1.a, .int .i64 u1.t, .slice V6 u1.p.length vm6, .slice V7 u1.s.length vm7, .slice V8 u1.r.length vm8]) (wanted_on rfl rfl rfl (e35.trans (by first | rfl | (simp [*]; done)))) rfl ?_ ?_
                · go_simp
                  (try simp only [i64_w])
                  try rfl
                refine hK.out _ _ ⟨S6_, sm6_, S7_, sm7_, S8_, sm8_, m11_, (by rw [ha.out]; exact putSel_upk 9 hb_ rfl rfl rfl), Q_HW, fun h0_ _ => absurd ((hoff 11 (by kernel_rfl)).symm.trans h0_) (by decide), fun h0_ => absurd ((hoff 11 (by kernel_rfl)).symm.trans h0_) (by decide)⟩
              refine steps_cons ?_ ?_
              · rintro b a w' ⟨S6_, sm6_, S7_, sm7_, S8_, sm8_, m11_, ha, Q_HW, Q_LS, Q_X11_⟩ hb_ hon hoff
                refine ⟨_, rfl, fun K hK => ?_⟩
                have e37 : a.tmps[37]? = some (.agg #[.int .i64 u1.k, .int .i64 u1.c, .int .i64 u1.q, .int .i64 u1.h, .int .i64 u1.a, .int .i64 u1.t, .slice V6 u1.p.length vm6, .slice V7 u1.s.length vm7, .slice V8 u1.r.length vm8]) := by rw [ha]; exact putSel_on (e := (10, 37, .agg #[.int .i64 u1.k, .int .i64 u1.c, .int .i64 u1.q, .int .i64 u1.h, .int .i64 u1.a, .int .i64 u1.t, .slice V6 u1.p.length vm6, .slice V7 u1.s.length vm7, .slice V8 u1.r.length vm8])) 9 rfl rfl (hon 10 (by kernel_rfl)) rfl
                have e35 : a.tmps[35]? = some (.bool true) := by rw [ha]; exact putSel_on (e := (8, 35, .bool true)) 7 rfl rfl (hon 8 (by kernel_rfl)) rfl
                replace ha := Aside0.mk ha
                have HW := Aside0.mk Q_HW
                refine goes_ Tryd.func18 (by kernel_rfl) rfl #[.agg #[.int .i64 u1.k, .int .i64 u1.c, .int .i64 u1.q, .int .i64 u1.h, .int .i64 u1.a, .int .i64 u1.t, .slice V6 u1.p.length vm6, .slice V7 u1.s.length vm7, .slice V8 u1.r.length vm8]] (wanted_on rfl rfl rfl e35) rfl rfl (by simp only [List.map_toArray, List.map_cons, List.map_nil, Act.eval, Array.getD_eq_getD_getElem?, Option.getD_some, e37]) ?_
                refine (HAs.out w' (Lies.below L1.out HW.out)).mono ?_
                rintro e w2 ⟨q6, p6, q7, p7, q8, p8, rfl, hL, hB⟩
                refine ⟨_, rfl, ?_⟩
                refine hK.out _ _ ⟨q6, p6, q7, p7, q8, p8, (.agg #[.int .i64 s1.k, .int .i64 s1.c, .int .i64 s1.q, .int .i64 s1.h, .int .i64 s1.a, .int .i64 s1.t, .slice q6 s1.p.length p6, .slice q7 s1.s.length p7, .slice q8 s1.r.length p8]), (by rw [ha.out]; exact putSel_upk 10 hb_ rfl rfl rfl), below_step HW.out hB, fun _ _ => hL, fun _ => rfl⟩
              refine steps_cons ?_ ?_
              · rintro b a w' ⟨S6_, sm6_, S7_, sm7_, S8_, sm8_, m11_, ha, Q_HW, Q_LS, Q_X11_⟩ hb_ hon hoff
                refine ⟨_, rfl, fun K hK => ?_⟩
                have e36 : a.tmps[36]? = some (.agg #[.int .i64 u1.k, .int .i64 u1.c, .int .i64 u1.q, .int .i64 u1.h, .int .i64 u1.a, .int .i64 u1.t, .slice V6 u1.p.length vm6, .slice V7 u1.s.length vm7, .slice V8 u1.r.length vm8]) := by rw [ha]; exact putSel_on (e := (9, 36, .agg #[.int .i64 u1.k, .int .i64 u1.c, .int .i64 u1.q, .int .i64 u1.h, .int .i64 u1.a, .int .i64 u1.t, .slice V6 u1.p.length vm6, .slice V7 u1.s.length vm7, .slice V8 u1.r.length vm8])) 8 rfl rfl (hon 9 (by kernel_rfl)) rfl
                have e38 : a.tmps[38]? = some (m11_) := by rw [ha]; exact putSel_on (e := (11, 38, m11_)) 10 rfl rfl (hon 11 (by kernel_rfl)) rfl
                rw [Q_X11_ (hon 11 (by kernel_rfl))] at e38
                have e35 : a.tmps[35]? = some (.bool true) := by rw [ha]; exact putSel_on (e := (8, 35, .bool true)) 7 rfl rfl (hon 8 (by kernel_rfl)) rfl
                replace ha := Aside0.mk ha
                have HW := Aside0.mk Q_HW
                have LS := Aside0.mk (Q_LS (hon 11 (by kernel_rfl)) hb_)
                refine goes_ Tryd.func19 (by kernel_rfl) rfl #[.agg #[.int .i64 u1.k, .int .i64 u1.c, .int .i64 u1.q, .int .i64 u1.h, .int .i64 u1.a, .int .i64 u1.t, .slice V6 u1.p.length vm6, .slice V7 u1.s.length vm7, .slice V8 u1.r.length vm8], .agg #[.int .i64 s1.k, .int .i64 s1.c, .int .i64 s1.q, .int .i64 s1.h, .int .i64 s1.a, .int .i64 s1.t, .slice S6_ s1.p.length sm6_, .slice S7_ s1.s.length sm7_, .slice S8_ s1.r.length sm8_]] (wanted_on rfl rfl rfl e35) rfl rfl (by simp only [List.map_toArray, List.map_cons, List.map_nil, Act.eval, Array.getD_eq_getD_getElem?, Option.getD_some, e36, e38]) ?_
                refine (ops_calls u1 V6 vm6 V7 vm7 V8 vm8 s1 S6_ sm6_ S7_ sm7_ S8_ sm8_ w' (Lies.below L1.out HW.out) LS.out).mono ?_
                rintro e w2 ⟨he, hB⟩
                rw [HSB.out] at he
                subst he
                refine ⟨_, rfl, ?_⟩
                refine hK.out _ _ ⟨S6_, sm6_, S7_, sm7_, S8_, sm8_, m11_, (by rw [ha.out]; exact putSel_upk 11 hb_ rfl rfl rfl), below_step HW.out hB, fun _ h1_ => absurd ((up_self b 12).symm.trans h1_) (by decide), Q_X11_⟩
              refine steps_cons ?_ ?_
              · rintro b a w' ⟨S6_, sm6_, S7_, sm7_, S8_, sm8_, m11_, ha, Q_HW, Q_LS, Q_X11_⟩ hb_ hon hoff
                refine ⟨_, rfl, fun K hK => ?_⟩
                have e35 : a.tmps[35]? = some (.bool true) := by rw [ha]; exact putSel_on (e := (8, 35, .bool true)) 7 rfl rfl (hon 8 (by kernel_rfl)) rfl
                have e39 : a.tmps[39]? = some (.bool sb) := by rw [ha]; exact putSel_on (e := (12, 39, .bool sb)) 11 rfl rfl (hon 12 (by kernel_rfl)) rfl
                replace ha := Aside0.mk ha
                have HW := Aside0.mk Q_HW
                refine value_ (w1 := w') (v := .bool sb) (by rfl) rfl ?_ ?_
                · go_simp
                  (try simp only [i64_w])
                  try rfl
                refine hK.out _ _ ⟨S6_, sm6_, S7_, sm7_, S8_, sm8_, m11_, (by rw [ha.out]; exact putSel_upk 12 hb_ rfl rfl rfl), Q_HW, fun _ h1_ => absurd ((hon 12 (by kernel_rfl)).symm.trans h1_) (by decide), Q_X11_⟩
              refine steps_cons ?_ ?_
              · rintro b a w' ⟨S6_, sm6_, S7_, sm7_, S8_, sm8_, m11_, ha, Q_HW, Q_LS, Q_X11_⟩ hb_ hon hoff
                refine ⟨_, rfl, fun K hK => ?_⟩
                have e40 : a.tmps[40]? = some (.bool sb) := by rw [ha]; exact putSel_on (e := (13, 40, .bool sb)) 12 rfl rfl (hon 13 (by kernel_rfl)) rfl
                replace ha := Aside0.mk ha
                have HW := Aside0.mk Q_HW
                refine value_ (w1 := w') (v := .bool sb) (by rfl) rfl ?_ ?_
                · go_simp
                  (try simp only [i64_w])
                  try rfl
                refine hK.out _ _ ⟨S6_, sm6_, S7_, sm7_, S8_, sm8_, m11_, (by rw [ha.out]; exact putSel_upk 13 hb_ rfl rfl rfl), Q_HW, fun _ h1_ => absurd ((hon 12 (by kernel_rfl)).symm.trans h1_) (by decide), Q_X11_⟩
              exact steps_nil
            · rintro b a w' hall ⟨S6_, sm6_, S7_, sm7_, S8_, sm8_, m11_, ha, Q_HW, Q_LS, Q_X11_⟩
              clear HW
              have hb1_ := hall 1 (by kernel_rfl)
              have hb2_ := hall 2 (by kernel_rfl)
              have hb3_ := hall 3 (by kernel_rfl)
              have hb4_ := hall 4 (by kernel_rfl)
              have hb5_ := hall 5 (by kernel_rfl)
              have hb6_ := hall 6 (by kernel_rfl)
              have hb7_ := hall 7 (by kernel_rfl)
              have hb8_ := hall 8 (by kernel_rfl)
              have hb9_ := hall 9 (by kernel_rfl)
              have hb10_ := hall 10 (by kernel_rfl)
              have hb11_ := hall 11 (by kernel_rfl)
              have hb12_ := hall 12 (by kernel_rfl)
              have hb13_ := hall 13 (by kernel_rfl)
              have hb14_ := hall 14 (by kernel_rfl)
              subst ha
              obtain rfl := Q_X11_ hb11_
              simp only [putSel, hb1_, hb2_, hb3_, hb4_, hb5_, hb6_, hb7_, hb8_, hb9_, hb10_, hb11_, hb12_, hb13_, hb14_, if_true, Act.put, List.setIfInBounds_toArray, List.set_cons_zero, List.set_cons_succ]
              have HW := Aside0.mk Q_HW
              clear Q_HW
              clear Q_LS
              clear hall hb1_ hb2_ hb3_ hb4_ hb5_ hb6_ hb7_ hb8_ hb9_ hb10_ hb11_ hb12_ hb13_ hb14_
              go_wp2
              go_meet
              case rel => exact ⟨rfl, ⟨below_step HW0.out HW.out⟩, ⟨Lies.below L1.out HW.out⟩, ⟨Lies.below L2.out HW.out⟩, ⟨blk_below F7.out HW.out⟩, ⟨blk_below F8.out HW.out⟩⟩
          · have d9 : decide (u1.k ≤ 9) = false := decide_eq_false h9
            obtain rfl : r0 = false := by rw [← hr0]; simp [known, h9]
            repeat (go_quiet (fail); try go_wp2)
            go_meet
            case rel => exact ⟨rfl, ⟨pw_below_drewN HW0.out _⟩, ⟨Lies.below L1.out (pw_below_drewN (Below.refl _ _) _)⟩, ⟨Lies.below L2.out (pw_below_drewN (Below.refl _ _) _)⟩, ⟨blk_drewN F7.out _⟩, ⟨blk_drewN F8.out _⟩⟩
        · have d1 : decide (u1.k ≥ 1) = false := decide_eq_false h1
          obtain rfl : r0 = false := by rw [← hr0]; simp [known, h1]
          repeat (go_quiet (fail); try go_wp2)
          go_meet
          case rel => exact ⟨rfl, ⟨pw_below_drewN HW0.out _⟩, ⟨Lies.below L1.out (pw_below_drewN (Below.refl _ _) _)⟩, ⟨Lies.below L2.out (pw_below_drewN (Below.refl _ _) _)⟩, ⟨blk_drewN F7.out _⟩, ⟨blk_drewN F8.out _⟩⟩
      case rest =>
        obtain ⟨rfl, HW4, M1, M2, N7, N8⟩ := hcut
        clear HW0 L1 L2 F7 F8 HAs HSB
        have hp5 : u1.p.length ≤ 5 := T1.out.p
        have q6 := (blk_cell N7.out 6).trans (rfl : _ = some (Value.slice V6 u1.p.length vm6))
        go_upto_block 0 with fail
        clear q6
        go_cut [9] (fun v wx => v = .bool (r0 && kindsOk u1.p) ∧ Aside0 (Below wd.heap.size wd wx) ∧ Aside0 (LiesX wx ((u1, (V6, vm6), (V7, vm7), (V8, vm8)) : OpX)) ∧ Aside0 (LiesX wx ((u2, (U6, um6), (U7, um7), (U8, um8)) : OpX)) ∧ Aside0 (wx.heap[g7]? = some (.cells #[.int .i64 u1.k, .int .i64 u1.c, .int .i64 u1.q, .int .i64 u1.h, .int .i64 u1.a, .int .i64 u1.t, .slice V6 u1.p.length vm6, .slice V7 u1.s.length vm7, .slice V8 u1.r.length vm8] 30 (0, 0))) ∧ Aside0 (wx.heap[g8]? = some (.cells #[.int .i64 u2.k, .int .i64 u2.c, .int .i64 u2.q, .int .i64 u2.h, .int .i64 u2.a, .int .i64 u2.t, .slice U6 u2.p.length um6, .slice U7 u2.s.length um7, .slice U8 u2.r.length um8] 30 (0, 0))))
        case first =>
          go_wp2_with fail
          go_loopw [9, 44] (fun v i wr => ∃ (j : Nat) (rj : Bool), j ≤ u1.p.length ∧ v = .bool rj ∧ i = .int .i64 (j : Int) ∧ Aside0 (rj = (r0 && kindsOk (u1.p.take j))) ∧ Aside0 (Below wd.heap.size wd wr) ∧ Aside0 (LiesX wr ((u1, (V6, vm6), (V7, vm7), (V8, vm8)) : OpX)) ∧ Aside0 (LiesX wr ((u2, (U6, um6), (U7, um7), (U8, um8)) : OpX)) ∧ Aside0 (wr.heap[g7]? = some (.cells #[.int .i64 u1.k, .int .i64 u1.c, .int .i64 u1.q, .int .i64 u1.h, .int .i64 u1.a, .int .i64 u1.t, .slice V6 u1.p.length vm6, .slice V7 u1.s.length vm7, .slice V8 u1.r.length vm8] 30 (0, 0))) ∧ Aside0 (wr.heap[g8]? = some (.cells #[.int .i64 u2.k, .int .i64 u2.c, .int .i64 u2.q, .int .i64 u2.h, .int .i64 u2.a, .int .i64 u2.t, .slice U6 u2.p.length um6, .slice U7 u2.s.length um7, .slice U8 u2.r.length um8] 30 (0, 0)))) (fun _ i _ => u1.p.length - (intOf i).toNat)
          case atStart => exact ⟨0, r0, Nat.zero_le _, rfl, rfl, ⟨by simp [kindsOk]⟩, HW4, M1, M2, N7, N8⟩
          case round =>
            obtain ⟨j, rj, hj, rfl, rfl, HRJ, HWr, L1, L2, F7, F8⟩ := hrel
            by_cases hlt : j < u1.p.length
            · obtain ⟨ad, x, had, hx, d0, d1, d2, d3, d4⟩ := at_Co L1.out.p j hlt
              subst had
              have HJ1 := Aside0.mk (show j + 1 ≤ u1.p.length from hlt)
              obtain ⟨nm, kd, lo, hi, tx⟩ := x
              dsimp only at d0 d1 d2 d3 d4
              have HST : Hid (kindsOk (u1.p.take (j + 1)) = (kindsOk (u1.p.take j) && decide (0 ≤ kd ∧ kd ≤ 255))) := Lib.hid (by
                obtain ⟨h1, h2⟩ := List.getElem?_eq_some_iff.1 hx
                unfold kindsOk
                rw [List.take_succ_eq_append_getElem h1, List.all_append, h2]
                simp)
              have HQ := Aside0.mk (blk_new wr (.cells #[.string nm, .int .i64 kd, .int .i64 lo, .int .i64 hi, .string tx] 44))
              have HW5 := Aside0.mk (below_alloc HWr.out (.cells #[.string nm, .int .i64 kd, .int .i64 lo, .int .i64 hi, .string tx] 44))
              have K1 := Aside0.mk (Lies.below L1.out (below_alloc (Below.refl wr.heap.size wr) (.cells #[.string nm, .int .i64 kd, .int .i64 lo, .int .i64 hi, .string tx] 44)))
              have K2 := Aside0.mk (Lies.below L2.out (below_alloc (Below.refl wr.heap.size wr) (.cells #[.string nm, .int .i64 kd, .int .i64 lo, .int .i64 hi, .string tx] 44)))
              have K7 := Aside0.mk (blk_alloc F7.out (.cells #[.string nm, .int .i64 kd, .int .i64 lo, .int .i64 hi, .string tx] 44))
              have K8 := Aside0.mk (blk_alloc F8.out (.cells #[.string nm, .int .i64 kd, .int .i64 lo, .int .i64 hi, .string tx] 44))
              clear hx
              go_upto_region 8 with fail
              clear d0 d1 d2 d3 d4
              generalize (wr.alloc (.cells #[.string nm, .int .i64 kd, .int .i64 lo, .int .i64 hi, .string tx] 44)) = wq at *
              generalize wr.heap.size = bq at *
              have q1 := (blk_cell HQ.out 1).trans (rfl : _ = some (Value.int .i64 kd))
              cases rj with
              | false =>
                go_wp2
                go_roundw
                case rel => exact ⟨j + 1, false, HJ1.out, rfl, by go_num, ⟨by rw [HST.out, ← Bool.and_assoc, ← HRJ.out]; rfl⟩, HW5, K1, K2, K7, K8⟩
                case measure => have hj1 := HJ1.out; simp [intOf]; omega
              | true =>
                by_cases k0 : 0 ≤ kd
                · have e0 : decide (kd ≥ 0) = true := decide_eq_true k0
                  by_cases k2 : kd ≤ 255
                  · have e2 : decide (kd ≤ 255) = true := decide_eq_true k2
                    go_wp2
                    go_roundw
                    case rel => exact ⟨j + 1, true, HJ1.out, rfl, by go_num, ⟨by rw [HST.out, ← Bool.and_assoc, ← HRJ.out]; simp [k0, k2]⟩, HW5, K1, K2, K7, K8⟩
                    case measure => have hj1 := HJ1.out; simp [intOf]; omega
                  · have e2 : decide (kd ≤ 255) = false := decide_eq_false k2
                    go_wp2
                    go_roundw
                    case rel => exact ⟨j + 1, false, HJ1.out, rfl, by go_num, ⟨by rw [HST.out, ← Bool.and_assoc, ← HRJ.out]; simp [k2]⟩, HW5, K1, K2, K7, K8⟩
                    case measure => have hj1 := HJ1.out; simp [intOf]; omega
                · have e0 : decide (kd ≥ 0) = false := decide_eq_false k0
                  go_wp2
                  go_roundw
                  case rel => exact ⟨j + 1, false, HJ1.out, rfl, by go_num, ⟨by rw [HST.out, ← Bool.and_assoc, ← HRJ.out]; simp [k0]⟩, HW5, K1, K2, K7, K8⟩
                  case measure => have hj1 := HJ1.out; simp [intOf]; omega
            · obtain rfl : j = u1.p.length := by omega
              have HRJ2 := HRJ.out
              rw [List.take_length] at HRJ2
              subst HRJ2
              go_wp2_with fail
              go_meet
              case rel => exact ⟨rfl, HWr, L1, L2, F7, F8⟩
        case rest =>
          obtain ⟨rfl, HW5, M1', M2', N7', N8'⟩ := hcut
          clear HW4 M1 M2 N7 N8
          have HW := HW5
          have L1 := M1'
          have L2 := M2'
          have F7 := N7'
          have F8 := N8'
          clear HW5 M1' M2' N7' N8'
          have HRD0 : Hid (rightD u1 = (r0 && kindsOk u1.p)) := Lib.hid (by rw [HRT.out, hr0])
          generalize (r0 && kindsOk u1.p) = rd at HRD0 ⊢
          obtain ⟨sxy, hsxy⟩ : ∃ b, sameD u1 u2 = b := ⟨_, rfl⟩
          have HSXY := Lib.hid hsxy
          have HSX : Hid (sameD u1 u1 = true) := Lib.hid (by simp [sameD])
          have hnq : (sxy != sxy) = false := by cases sxy <;> rfl
          have hnq2 : (sxy == sxy) = true := by cases sxy <;> rfl
          have HEn2 : Hid (∀ W, Lies W u2 U6 U7 U8 → Calls Tryd.prog 14 #[.agg #[.int .i64 u2.k, .int .i64 u2.c, .int .i64 u2.q, .int .i64 u2.h, .int .i64 u2.a, .int .i64 u2.t, .slice U6 u2.p.length um6, .slice U7 u2.s.length um7, .slice U8 u2.r.length um8]] W fun e w' => ∃ Aq cq bq fv, e = .returned (.tuple #[.slice Aq bq.length cq, fv]) ∧ ((fv = .nilIface ∧ rightD u2 = true ∧ bq = oBy u2) ∨ ∃ t z, fv = .iface t z) ∧ bq.length ≤ cq ∧ Kd.C (Kd.int .u8) w' Aq bq.length bq ∧ Below W.heap.size W w') := Lib.hid (fun W h => by
            cases hrt : rightD u2 with
            | true =>
              refine (enc_right u2 U6 um6 U7 um7 U8 um8 W h E2.out hrt).mono ?_
              rintro e w' ⟨v, rfl, hR, hB⟩
              obtain ⟨Av, cv, rfl, hcv, hCv⟩ := Kd.R_reads hR
              exact ⟨Av, cv, _, .nilIface, rfl, .inl ⟨rfl, rfl, rfl⟩, hcv, hCv, hB⟩
            | false =>
              refine (enc_wrong u2 U6 um6 U7 um7 U8 um8 W h E2.out hrt).mono ?_
              rintro e w' ⟨u, rfl, hc, hB⟩
              obtain ⟨t, z, rfl⟩ := chain_iface hc
              exact ⟨none, 0, [], _, rfl, .inr ⟨t, z, rfl⟩, by simp, nilR _, hB⟩)
          clear hsxy HRT hr0
          cases rd with
          | false =>
            have HRD : Hid (rightD u1 = false) := HRD0
            obtain ⟨q0, q1, q2, q3, q4, q5, q6, q7, q8⟩ := nine F7.out
            have hlq := blk_lt F7.out
            go_upto_region 11 with (go_at_call 14; refine (enc_wrong u1 V6 vm6 V7 vm7 V8 vm8 _ L1.out E1.out HRD.out).mono ?_; rintro e w3 ⟨ue, rfl, hc, hB⟩; obtain ⟨te, ze, rfl⟩ := chain_iface hc; have HCh := Aside0.mk hc; clear q0 q1 q2 q3 q4 q5 q6 q7 q8 hlq hc; replace HW := Aside0.mk (below_step HW.out hB); replace L1 := Aside0.mk (Lies.below L1.out hB); replace L2 := Aside0.mk (Lies.below L2.out hB); replace F7 := Aside0.mk (blk_below F7.out hB); replace F8 := Aside0.mk (blk_below F8.out hB); clear hB)
            obtain ⟨q0, q1, q2, q3, q4, q5, q6, q7, q8⟩ := nine F8.out
            have hlq := blk_lt F8.out
            go_upto_region 12 with (go_at_call 14; refine (HEn2.out _ L2.out).mono ?_; rintro e w4 ⟨Aq, cq, bq, fv, rfl, hfv, hcq, hCq, hB⟩; replace HCh := Aside0.mk (Go.Proofs.YtbplemhjhpfkgaaDoor.Ft.Chain.below hB HCh.out); clear q0 q1 q2 q3 q4 q5 q6 q7 q8 hlq hfv hCq; replace HW := Aside0.mk (below_step HW.out hB); replace L1 := Aside0.mk (Lies.below L1.out hB); replace L2 := Aside0.mk (Lies.below L2.out hB); replace F7 := Aside0.mk (blk_below F7.out hB); replace F8 := Aside0.mk (blk_below F8.out hB); clear hB)
            have HW0 := HW
            clear HW
            have HW := Aside0.mk (Below.refl w4.heap.size w4)
            refine start_ (n := 25) (S := fun w' => True) (ds := []) #[false, false, false, false, false, false, false, false, false, false, false, false, false, false, false, false, false, false, false, false, false, false, false, false, false] (by kernel_rfl) rfl rfl trivial (fun hHeld => ?_)
            refine with_tabW bk12false.tab12 bk12false.bits12 (fun HT_ HW_ => ?_)
            refine pure_ (i := 2) (N := some 72) (v := ?_) (a' := ?_) #[false, false, true, false, false, false, false, false, false, false, false, false, false, false, false, false, false, false, false, false, false, false, false, false, false] rfl rfl (any_of HT_.out (by kernel_rfl)) (fun _ _ _ h => h) (Or.inl ⟨by rfl, ?_⟩) ?_ ?_
            rotate_left
            · intro w'
              go_simp
              with_reducible rfl
            rotate_left
            · simp only [Act.put, List.setIfInBounds_toArray, List.set_cons_zero, List.set_cons_succ, i64_w, i32_w]
              rfl
            refine inv_at [0, 1, 3, 4, 5, 6, 7, 8, 9, 10, 11, 12, 13, 14, 15, 16, 17, 18, 19, 20, 21, 22, 23, 24] (fun a0_ b a w' => a = putSel a0_ b [(0, 70, .agg #[.int .i64 u1.k, .int .i64 u1.c, .int .i64 u1.q, .int .i64 u1.h, .int .i64 u1.a, .int .i64 u1.t, .slice V6 u1.p.length vm6, .slice V7 u1.s.length vm7, .slice V8 u1.r.length vm8]), (1, 71, .bool false), (3, 73, .bool false), (4, 74, .bool false), (5, 75, .iface te ze), (6, 76, .bool false), (7, 77, .bool false), (8, 78, .bool false), (9, 79, .bool false), (10, 80, .bool false), (11, 81, .agg #[.int .i64 u1.k, .int .i64 u1.c, .int .i64 u1.q, .int .i64 u1.h, .int .i64 u1.a, .int .i64 u1.t, .slice V6 u1.p.length vm6, .slice V7 u1.s.length vm7, .slice V8 u1.r.length vm8]), (12, 82, .agg #[.int .i64 u1.k, .int .i64 u1.c, .int .i64 u1.q, .int .i64 u1.h, .int .i64 u1.a, .int .i64 u1.t, .slice V6 u1.p.length vm6, .slice V7 u1.s.length vm7, .slice V8 u1.r.length vm8]), (13, 83, .bool true), (14, 84, .bool false), (15, 85, .bool false), (16, 86, .bool false), (17, 87, .agg #[.int .i64 u1.k, .int .i64 u1.c, .int .i64 u1.q, .int .i64 u1.h, .int .i64 u1.a, .int .i64 u1.t, .slice V6 u1.p.length vm6, .slice V7 u1.s.length vm7, .slice V8 u1.r.length vm8]), (18, 88, .agg #[.int .i64 u2.k, .int .i64 u2.c, .int .i64 u2.q, .int .i64 u2.h, .int .i64 u2.a, .int .i64 u2.t, .slice U6 u2.p.length um6, .slice U7 u2.s.length um7, .slice U8 u2.r.length um8]), (19, 89, .bool sxy), (20, 90, .agg #[.int .i64 u1.k, .int .i64 u1.c, .int .i64 u1.q, .int .i64 u1.h, .int .i64 u1.a, .int .i64 u1.t, .slice V6 u1.p.length vm6, .slice V7 u1.s.length vm7, .slice V8 u1.r.length vm8]), (21, 91, .agg #[.int .i64 u2.k, .int .i64 u2.c, .int .i64 u2.q, .int .i64 u2.h, .int .i64 u2.a, .int .i64 u2.t, .slice U6 u2.p.length um6, .slice U7 u2.s.length um7, .slice U8 u2.r.length um8]), (22, 92, .bool sxy), (23, 93, .bool false), (24, 94, .bool false)] ∧ (Below w4.heap.size w4 w')) HT_.out HW_.out (by kernel_rfl) (by kernel_rfl) ?_ ?_ ?_
            · exact ⟨by simp only [putSel, Bool.false_eq_true, if_false], below_drew HW.out⟩
            · skip
              clear HW
              refine steps_cons ?_ ?_
              · rintro b a w' ⟨ha, Q_HW⟩ hb_ hon hoff
                refine ⟨_, rfl, fun K hK => ?_⟩
                have e7 : a.tmps[7]? = some (.pointer (some ⟨g7, 0, none⟩)) := by rw [ha]; exact (putSel_off rfl).trans rfl
                replace ha := Aside0.mk ha
                have HW := Aside0.mk Q_HW
                obtain ⟨q0, q1, q2, q3, q4, q5, q6, q7, q8⟩ := nine (blk_below F7.out HW.out)
                refine value_ (w1 := w') (v := .agg #[.int .i64 u1.k, .int .i64 u1.c, .int .i64 u1.q, .int .i64 u1.h, .int .i64 u1.a, .int .i64 u1.t, .slice V6 u1.p.length vm6, .slice V7 u1.s.length vm7, .slice V8 u1.r.length vm8]) (by rfl) rfl ?_ ?_
                · go_simp
                  (try simp only [i64_w])
                  try rfl
                refine hK.out _ _ ⟨(by rw [ha.out]; exact putSel_upk 0 hb_ rfl rfl rfl), Q_HW⟩
              refine steps_cons ?_ ?_
              · rintro b a w' ⟨ha, Q_HW⟩ hb_ hon hoff
                refine ⟨_, rfl, fun K hK => ?_⟩
                have e70 : a.tmps[70]? = some (.agg #[.int .i64 u1.k, .int .i64 u1.c, .int .i64 u1.q, .int .i64 u1.h, .int .i64 u1.a, .int .i64 u1.t, .slice V6 u1.p.length vm6, .slice V7 u1.s.length vm7, .slice V8 u1.r.length vm8]) := by rw [ha]; exact putSel_on (e := (0, 70, .agg #[.int .i64 u1.k, .int .i64 u1.c, .int .i64 u1.q, .int .i64 u1.h, .int .i64 u1.a, .int .i64 u1.t, .slice V6 u1.p.length vm6, .slice V7 u1.s.length vm7, .slice V8 u1.r.length vm8])) 0 rfl rfl (hon 0 (by kernel_rfl)) rfl
                replace ha := Aside0.mk ha
                have HW := Aside0.mk Q_HW
                refine goes_ Tryd.func20 (by kernel_rfl) rfl #[.agg #[.int .i64 u1.k, .int .i64 u1.c, .int .i64 u1.q, .int .i64 u1.h, .int .i64 u1.a, .int .i64 u1.t, .slice V6 u1.p.length vm6, .slice V7 u1.s.length vm7, .slice V8 u1.r.length vm8]] (by rfl) rfl rfl (by simp only [List.map_toArray, List.map_cons, List.map_nil, Act.eval, Array.getD_eq_getD_getElem?, Option.getD_some, e70]) ?_
                refine (right_calls u1 V6 vm6 V7 vm7 V8 vm8 w' (Lies.below L1.out HW.out) E1.out).mono ?_
                rintro e w2 ⟨he, hB⟩
                rw [HRD.out] at he
                subst he
                refine ⟨_, rfl, ?_⟩
                refine hK.out _ _ ⟨(by rw [ha.out]; exact putSel_upk 1 hb_ rfl rfl rfl), below_step HW.out hB⟩
              refine steps_cons ?_ ?_
              · rintro b a w' ⟨ha, Q_HW⟩ hb_ hon hoff
                refine ⟨_, rfl, fun K hK => ?_⟩
                have e71 : a.tmps[71]? = some (.bool false) := by rw [ha]; exact putSel_on (e := (1, 71, .bool false)) 1 rfl rfl (hon 1 (by kernel_rfl)) rfl
                have e72 : a.tmps[72]? = some (.bool false) := by rw [ha]; exact (putSel_off rfl).trans rfl
                replace ha := Aside0.mk ha
                have HW := Aside0.mk Q_HW
                refine value_ (w1 := w') (v := .bool false) (by rfl) rfl ?_ ?_
                · go_simp
                  (try simp only [i64_w])
                  try rfl
                refine hK.out _ _ ⟨(by rw [ha.out]; exact putSel_upk 2 hb_ rfl rfl rfl), Q_HW⟩
              refine steps_cons ?_ ?_
              · rintro b a w' ⟨ha, Q_HW⟩ hb_ hon hoff
                refine ⟨_, rfl, fun K hK => ?_⟩
                have e73 : a.tmps[73]? = some (.bool false) := by rw [ha]; exact putSel_on (e := (3, 73, .bool false)) 2 rfl rfl (hon 3 (by kernel_rfl)) rfl
                replace ha := Aside0.mk ha
                have HW := Aside0.mk Q_HW
                refine value_ (w1 := w') (v := .bool false) (by rfl) rfl ?_ ?_
                · go_simp
                  (try simp only [i64_w])
                  try rfl
                refine hK.out _ _ ⟨(by rw [ha.out]; exact putSel_upk 3 hb_ rfl rfl rfl), Q_HW⟩
              refine steps_cons ?_ ?_
              · rintro b a w' ⟨ha, Q_HW⟩ hb_ hon hoff
                refine ⟨_, rfl, fun K hK => ?_⟩
                have e13 : a.tmps[13]? = some (.iface te ze) := by rw [ha]; exact (putSel_off rfl).trans rfl
                have e74 : a.tmps[74]? = some (.bool false) := by rw [ha]; exact putSel_on (e := (4, 74, .bool false)) 3 rfl rfl (hon 4 (by kernel_rfl)) rfl
                replace ha := Aside0.mk ha
                have HW := Aside0.mk Q_HW
                refine value_ (w1 := w') (v := .iface te ze) (wanted_on rfl rfl rfl (e74.trans (by first | rfl | (simp [*]; done)))) rfl ?_ ?_
                · go_simp
                  (try simp only [i64_w])
                  try rfl
                refine hK.out _ _ ⟨(by rw [ha.out]; exact putSel_upk 4 hb_ rfl rfl rfl), Q_HW⟩
              refine steps_cons ?_ ?_
              · rintro b a w' ⟨ha, Q_HW⟩ hb_ hon hoff
                refine ⟨_, rfl, fun K hK => ?_⟩
                have e75 : a.tmps[75]? = some (.iface te ze) := by rw [ha]; exact putSel_on (e := (5, 75, .iface te ze)) 4 rfl rfl (hon 5 (by kernel_rfl)) rfl
                have e74 : a.tmps[74]? = some (.bool false) := by rw [ha]; exact putSel_on (e := (4, 74, .bool false)) 3 rfl rfl (hon 4 (by kernel_rfl)) rfl
                replace ha := Aside0.mk ha
                have HW := Aside0.mk Q_HW
                refine value_ (w1 := w') (v := .bool false) (wanted_on rfl rfl rfl (e74.trans (by first | rfl | (simp [*]; done)))) rfl ?_ ?_
                · go_simp
                  (try simp only [i64_w])
                  try rfl
                refine hK.out _ _ ⟨(by rw [ha.out]; exact putSel_upk 5 hb_ rfl rfl rfl), Q_HW⟩
              refine steps_cons ?_ ?_
              · rintro b a w' ⟨ha, Q_HW⟩ hb_ hon hoff
                refine ⟨_, rfl, fun K hK => ?_⟩
                have e9 : a.tmps[9]? = some (.bool false) := by rw [ha]; exact (putSel_off rfl).trans rfl
                have e74 : a.tmps[74]? = some (.bool false) := by rw [ha]; exact putSel_on (e := (4, 74, .bool false)) 3 rfl rfl (hon 4 (by kernel_rfl)) rfl
                replace ha := Aside0.mk ha
                have HW := Aside0.mk Q_HW
                refine value_ (w1 := w') (v := .bool false) (wanted_on rfl rfl rfl (e74.trans (by first | rfl | (simp [*]; done)))) rfl ?_ ?_
                · go_simp
                  (try simp only [i64_w])
                  try rfl
                refine hK.out _ _ ⟨(by rw [ha.out]; exact putSel_upk 6 hb_ rfl rfl rfl), Q_HW⟩
              refine steps_cons ?_ ?_
              · rintro b a w' ⟨ha, Q_HW⟩ hb_ hon hoff
                refine ⟨_, rfl, fun K hK => ?_⟩
                have e76 : a.tmps[76]? = some (.bool false) := by rw [ha]; exact putSel_on (e := (6, 76, .bool false)) 5 rfl rfl (hon 6 (by kernel_rfl)) rfl
                have e77 : a.tmps[77]? = some (.bool false) := by rw [ha]; exact putSel_on (e := (7, 77, .bool false)) 6 rfl rfl (hon 7 (by kernel_rfl)) rfl
                have e74 : a.tmps[74]? = some (.bool false) := by rw [ha]; exact putSel_on (e := (4, 74, .bool false)) 3 rfl rfl (hon 4 (by kernel_rfl)) rfl
                replace ha := Aside0.mk ha
                have HW := Aside0.mk Q_HW
                refine value_ (w1 := w') (v := .bool false) (wanted_on rfl rfl rfl (e74.trans (by first | rfl | (simp [*]; done)))) rfl ?_ ?_
                · go_simp
                  (try simp only [i64_w])
                  try rfl
                refine hK.out _ _ ⟨(by rw [ha.out]; exact putSel_upk 7 hb_ rfl rfl rfl), Q_HW⟩
              refine steps_cons ?_ ?_
              · rintro b a w' ⟨ha, Q_HW⟩ hb_ hon hoff
                refine ⟨_, rfl, fun K hK => ?_⟩
                have e74 : a.tmps[74]? = some (.bool false) := by rw [ha]; exact putSel_on (e := (4, 74, .bool false)) 3 rfl rfl (hon 4 (by kernel_rfl)) rfl
                have e78 : a.tmps[78]? = some (.bool false) := by rw [ha]; exact putSel_on (e := (8, 78, .bool false)) 7 rfl rfl (hon 8 (by kernel_rfl)) rfl
                replace ha := Aside0.mk ha
                have HW := Aside0.mk Q_HW
                refine value_ (w1 := w') (v := .bool false) (by rfl) rfl ?_ ?_
                · go_simp
                  (try simp only [i64_w])
                  try rfl
                refine hK.out _ _ ⟨(by rw [ha.out]; exact putSel_upk 8 hb_ rfl rfl rfl), Q_HW⟩
              refine steps_cons ?_ ?_
              · rintro b a w' ⟨ha, Q_HW⟩ hb_ hon hoff
                refine ⟨_, rfl, fun K hK => ?_⟩
                have e79 : a.tmps[79]? = some (.bool false) := by rw [ha]; exact putSel_on (e := (9, 79, .bool false)) 8 rfl rfl (hon 9 (by kernel_rfl)) rfl
                replace ha := Aside0.mk ha
                have HW := Aside0.mk Q_HW
                refine value_ (w1 := w') (v := .bool false) (by rfl) rfl ?_ ?_
                · go_simp
                  (try simp only [i64_w])
                  try rfl
                refine hK.out _ _ ⟨(by rw [ha.out]; exact putSel_upk 9 hb_ rfl rfl rfl), Q_HW⟩
              refine steps_cons ?_ ?_
              · rintro b a w' ⟨ha, Q_HW⟩ hb_ hon hoff
                refine ⟨_, rfl, fun K hK => ?_⟩
                have e7 : a.tmps[7]? = some (.pointer (some ⟨g7, 0, none⟩)) := by rw [ha]; exact (putSel_off rfl).trans rfl
                have e80 : a.tmps[80]? = some (.bool false) := by rw [ha]; exact putSel_on (e := (10, 80, .bool false)) 9 rfl rfl (hon 10 (by kernel_rfl)) rfl
                replace ha := Aside0.mk ha
                have HW := Aside0.mk Q_HW
                obtain ⟨q0, q1, q2, q3, q4, q5, q6, q7, q8⟩ := nine (blk_below F7.out HW.out)
                refine value_ (w1 := w') (v := .agg #[.int .i64 u1.k, .int .i64 u1.c, .int .i64 u1.q, .int .i64 u1.h, .int .i64 u1.a, .int .i64 u1.t, .slice V6 u1.p.length vm6, .slice V7 u1.s.length vm7, .slice V8 u1.r.length vm8]) (wanted_on rfl rfl rfl (e80.trans (by first | rfl | (simp [*]; done)))) rfl ?_ ?_
                · go_simp
                  (try simp only [i64_w])
                  try rfl
                refine hK.out _ _ ⟨(by rw [ha.out]; exact putSel_upk 10 hb_ rfl rfl rfl), Q_HW⟩
              refine steps_cons ?_ ?_
              · rintro b a w' ⟨ha, Q_HW⟩ hb_ hon hoff
                refine ⟨_, rfl, fun K hK => ?_⟩
                have e7 : a.tmps[7]? = some (.pointer (some ⟨g7, 0, none⟩)) := by rw [ha]; exact (putSel_off rfl).trans rfl
                have e80 : a.tmps[80]? = some (.bool false) := by rw [ha]; exact putSel_on (e := (10, 80, .bool false)) 9 rfl rfl (hon 10 (by kernel_rfl)) rfl
                replace ha := Aside0.mk ha
                have HW := Aside0.mk Q_HW
                obtain ⟨q0, q1, q2, q3, q4, q5, q6, q7, q8⟩ := nine (blk_below F7.out HW.out)
                refine value_ (w1 := w') (v := .agg #[.int .i64 u1.k, .int .i64 u1.c, .int .i64 u1.q, .int .i64 u1.h, .int .i64 u1.a, .int .i64 u1.t, .slice V6 u1.p.length vm6, .slice V7 u1.s.length vm7, .slice V8 u1.r.length vm8]) (wanted_on rfl rfl rfl (e80.trans (by first | rfl | (simp [*]; done)))) rfl ?_ ?_
                · go_simp
                  (try simp only [i64_w])
                  try rfl
                refine hK.out _ _ ⟨(by rw [ha.out]; exact putSel_upk 11 hb_ rfl rfl rfl), Q_HW⟩
              refine steps_cons ?_ ?_
              · rintro b a w' ⟨ha, Q_HW⟩ hb_ hon hoff
                refine ⟨_, rfl, fun K hK => ?_⟩
                have e81 : a.tmps[81]? = some (.agg #[.int .i64 u1.k, .int .i64 u1.c, .int .i64 u1.q, .int .i64 u1.h, .int .i64 u1.a, .int .i64 u1.t, .slice V6 u1.p.length vm6, .slice V7 u1.s.length vm7, .slice V8 u1.r.length vm8]) := by rw [ha]; exact putSel_on (e := (11, 81, .agg #[.int .i64 u1.k, .int .i64 u1.c, .int .i64 u1.q, .int .i64 u1.h, .int .i64 u1.a, .int .i64 u1.t, .slice V6 u1.p.length vm6, .slice V7 u1.s.length vm7, .slice V8 u1.r.length vm8])) 10 rfl rfl (hon 11 (by kernel_rfl)) rfl
                have e82 : a.tmps[82]? = some (.agg #[.int .i64 u1.k, .int .i64 u1.c, .int .i64 u1.q, .int .i64 u1.h, .int .i64 u1.a, .int .i64 u1.t, .slice V6 u1.p.length vm6, .slice V7 u1.s.length vm7, .slice V8 u1.r.length vm8]) := by rw [ha]; exact putSel_on (e := (12, 82, .agg #[.int .i64 u1.k, .int .i64 u1.c, .int .i64 u1.q, .int .i64 u1.h, .int .i64 u1.a, .int .i64 u1.t, .slice V6 u1.p.length vm6, .slice V7 u1.s.length vm7, .slice V8 u1.r.length vm8])) 11 rfl rfl (hon 12 (by kernel_rfl)) rfl
                have e80 : a.tmps[80]? = some (.bool false) := by rw [ha]; exact putSel_on (e := (10, 80, .bool false)) 9 rfl rfl (hon 10 (by kernel_rfl)) rfl
                replace ha := Aside0.mk ha
                have HW := Aside0.mk Q_HW
                refine goes_ Tryd.func29 (by kernel_rfl) rfl #[.agg #[.int .i64 u1.k, .int .i64 u1.c, .int .i64 u1.q, .int .i64 u1.h, .int .i64 u1.a, .int .i64 u1.t, .slice V6 u1.p.length vm6, .slice V7 u1.s.length vm7, .slice V8 u1.r.length vm8], .agg #[.int .i64 u1.k, .int .i64 u1.c, .int .i64 u1.q, .int .i64 u1.h, .int .i64 u1.a, .int .i64 u1.t, .slice V6 u1.p.length vm6, .slice V7 u1.s.length vm7, .slice V8 u1.r.length vm8]] (wanted_on rfl rfl rfl e80) rfl rfl (by simp only [List.map_toArray, List.map_cons, List.map_nil, Act.eval, Array.getD_eq_getD_getElem?, Option.getD_some, e81, e82]) ?_
                refine (same_calls u1 V6 vm6 V7 vm7 V8 vm8 u1 V6 vm6 V7 vm7 V8 vm8 w' (Lies.below L1.out HW.out) (Lies.below L1.out HW.out) E1.out E1.out).mono ?_
                rintro e w2 ⟨he, hB⟩
                rw [HSX.out] at he
                subst he
                refine ⟨_, rfl, ?_⟩
                refine hK.out _ _ ⟨(by rw [ha.out]; exact putSel_upk 12 hb_ rfl rfl rfl), below_step HW.out hB⟩
              refine steps_cons ?_ ?_
              · rintro b a w' ⟨ha, Q_HW⟩ hb_ hon hoff
                refine ⟨_, rfl, fun K hK => ?_⟩
                have e83 : a.tmps[83]? = some (.bool true) := by rw [ha]; exact putSel_on (e := (13, 83, .bool true)) 12 rfl rfl (hon 13 (by kernel_rfl)) rfl
                have e80 : a.tmps[80]? = some (.bool false) := by rw [ha]; exact putSel_on (e := (10, 80, .bool false)) 9 rfl rfl (hon 10 (by kernel_rfl)) rfl
                replace ha := Aside0.mk ha
                have HW := Aside0.mk Q_HW
                refine value_ (w1 := w') (v := .bool false) (wanted_on rfl rfl rfl (e80.trans (by first | rfl | (simp [*]; done)))) rfl ?_ ?_
                · go_simp
                  (try simp only [i64_w])
                  try rfl
                refine hK.out _ _ ⟨(by rw [ha.out]; exact putSel_upk 13 hb_ rfl rfl rfl), Q_HW⟩
              refine steps_cons ?_ ?_
              · rintro b a w' ⟨ha, Q_HW⟩ hb_ hon hoff
                refine ⟨_, rfl, fun K hK => ?_⟩
                have e80 : a.tmps[80]? = some (.bool false) := by rw [ha]; exact putSel_on (e := (10, 80, .bool false)) 9 rfl rfl (hon 10 (by kernel_rfl)) rfl
                have e84 : a.tmps[84]? = some (.bool false) := by rw [ha]; exact putSel_on (e := (14, 84, .bool false)) 13 rfl rfl (hon 14 (by kernel_rfl)) rfl
                replace ha := Aside0.mk ha
                have HW := Aside0.mk Q_HW
                refine value_ (w1 := w') (v := .bool false) (by rfl) rfl ?_ ?_
                · go_simp
                  (try simp only [i64_w])
                  try rfl
                refine hK.out _ _ ⟨(by rw [ha.out]; exact putSel_upk 14 hb_ rfl rfl rfl), Q_HW⟩
              refine steps_cons ?_ ?_
              · rintro b a w' ⟨ha, Q_HW⟩ hb_ hon hoff
                refine ⟨_, rfl, fun K hK => ?_⟩
                have e85 : a.tmps[85]? = some (.bool false) := by rw [ha]; exact putSel_on (e := (15, 85, .bool false)) 14 rfl rfl (hon 15 (by kernel_rfl)) rfl
                replace ha := Aside0.mk ha
                have HW := Aside0.mk Q_HW
                refine value_ (w1 := w') (v := .bool false) (by rfl) rfl ?_ ?_
                · go_simp
                  (try simp only [i64_w])
                  try rfl
                refine hK.out _ _ ⟨(by rw [ha.out]; exact putSel_upk 15 hb_ rfl rfl rfl), Q_HW⟩
              refine steps_cons ?_ ?_
              · rintro b a w' ⟨ha, Q_HW⟩ hb_ hon hoff
                refine ⟨_, rfl, fun K hK => ?_⟩
                have e7 : a.tmps[7]? = some (.pointer (some ⟨g7, 0, none⟩)) := by rw [ha]; exact (putSel_off rfl).trans rfl
                have e86 : a.tmps[86]? = some (.bool false) := by rw [ha]; exact putSel_on (e := (16, 86, .bool false)) 15 rfl rfl (hon 16 (by kernel_rfl)) rfl
                replace ha := Aside0.mk ha
                have HW := Aside0.mk Q_HW
                obtain ⟨q0, q1, q2, q3, q4, q5, q6, q7, q8⟩ := nine (blk_below F7.out HW.out)
                refine value_ (w1 := w') (v := .agg #[.int .i64 u1.k, .int .i64 u1.c, .int .i64 u1.q, .int .i64 u1.h, .int .i64 u1.a, .int .i64 u1.t, .slice V6 u1.p.length vm6, .slice V7 u1.s.length vm7, .slice V8 u1.r.length vm8]) (wanted_on rfl rfl rfl (e86.trans (by first | rfl | (simp [*]; done)))) rfl ?_ ?_
                · go_simp
                  (try simp only [i64_w])
                  try rfl
                refine hK.out _ _ ⟨(by rw [ha.out]; exact putSel_upk 16 hb_ rfl rfl rfl), Q_HW⟩
              refine steps_cons ?_ ?_
              · rintro b a w' ⟨ha, Q_HW⟩ hb_ hon hoff
                refine ⟨_, rfl, fun K hK => ?_⟩
                have e8 : a.tmps[8]? = some (.pointer (some ⟨g8, 0, none⟩)) := by rw [ha]; exact (putSel_off rfl).trans rfl
                have e86 : a.tmps[86]? = some (.bool false) := by rw [ha]; exact putSel_on (e := (16, 86, .bool false)) 15 rfl rfl (hon 16 (by kernel_rfl)) rfl
                replace ha := Aside0.mk ha
                have HW := Aside0.mk Q_HW
                obtain ⟨q0, q1, q2, q3, q4, q5, q6, q7, q8⟩ := nine (blk_below F8.out HW.out)
                refine value_ (w1 := w') (v := .agg #[.int .i64 u2.k, .int .i64 u2.c, .int .i64 u2.q, .int .i64 u2.h, .int .i64 u2.a, .int .i64 u2.t, .slice U6 u2.p.length um6, .slice U7 u2.s.length um7, .slice U8 u2.r.length um8]) (wanted_on rfl rfl rfl (e86.trans (by first | rfl | (simp [*]; done)))) rfl ?_ ?_
                · go_simp
                  (try simp only [i64_w])
                  try rfl
                refine hK.out _ _ ⟨(by rw [ha.out]; exact putSel_upk 17 hb_ rfl rfl rfl), Q_HW⟩
              refine steps_cons ?_ ?_
              · rintro b a w' ⟨ha, Q_HW⟩ hb_ hon hoff
                refine ⟨_, rfl, fun K hK => ?_⟩
                have e87 : a.tmps[87]? = some (.agg #[.int .i64 u1.k, .int .i64 u1.c, .int .i64 u1.q, .int .i64 u1.h, .int .i64 u1.a, .int .i64 u1.t, .slice V6 u1.p.length vm6, .slice V7 u1.s.length vm7, .slice V8 u1.r.length vm8]) := by rw [ha]; exact putSel_on (e := (17, 87, .agg #[.int .i64 u1.k, .int .i64 u1.c, .int .i64 u1.q, .int .i64 u1.h, .int .i64 u1.a, .int .i64 u1.t, .slice V6 u1.p.length vm6, .slice V7 u1.s.length vm7, .slice V8 u1.r.length vm8])) 16 rfl rfl (hon 17 (by kernel_rfl)) rfl
                have e88 : a.tmps[88]? = some (.agg #[.int .i64 u2.k, .int .i64 u2.c, .int .i64 u2.q, .int .i64 u2.h, .int .i64 u2.a, .int .i64 u2.t, .slice U6 u2.p.length um6, .slice U7 u2.s.length um7, .slice U8 u2.r.length um8]) := by rw [ha]; exact putSel_on (e := (18, 88, .agg #[.int .i64 u2.k, .int .i64 u2.c, .int .i64 u2.q, .int .i64 u2.h, .int .i64 u2.a, .int .i64 u2.t, .slice U6 u2.p.length um6, .slice U7 u2.s.length um7, .slice U8 u2.r.length um8])) 17 rfl rfl (hon 18 (by kernel_rfl)) rfl
                have e86 : a.tmps[86]? = some (.bool false) := by rw [ha]; exact putSel_on (e := (16, 86, .bool false)) 15 rfl rfl (hon 16 (by kernel_rfl)) rfl
                replace ha := Aside0.mk ha
                have HW := Aside0.mk Q_HW
                refine goes_ Tryd.func29 (by kernel_rfl) rfl #[.agg #[.int .i64 u1.k, .int .i64 u1.c, .int .i64 u1.q, .int .i64 u1.h, .int .i64 u1.a, .int .i64 u1.t, .slice V6 u1.p.length vm6, .slice V7 u1.s.length vm7, .slice V8 u1.r.length vm8], .agg #[.int .i64 u2.k, .int .i64 u2.c, .int .i64 u2.q, .int .i64 u2.h, .int .i64 u2.a, .int .i64 u2.t, .slice U6 u2.p.length um6, .slice U7 u2.s.length um7, .slice U8 u2.r.length um8]] (wanted_on rfl rfl rfl e86) rfl rfl (by simp only [List.map_toArray, List.map_cons, List.map_nil, Act.eval, Array.getD_eq_getD_getElem?, Option.getD_some, e87, e88]) ?_
                refine (same_calls u1 V6 vm6 V7 vm7 V8 vm8 u2 U6 um6 U7 um7 U8 um8 w' (Lies.below L1.out HW.out) (Lies.below L2.out HW.out) E1.out E2.out).mono ?_
                rintro e w2 ⟨he, hB⟩
                rw [HSXY.out] at he
                subst he
                refine ⟨_, rfl, ?_⟩
                refine hK.out _ _ ⟨(by rw [ha.out]; exact putSel_upk 18 hb_ rfl rfl rfl), below_step HW.out hB⟩
              refine steps_cons ?_ ?_
              · rintro b a w' ⟨ha, Q_HW⟩ hb_ hon hoff
                refine ⟨_, rfl, fun K hK => ?_⟩
                have e7 : a.tmps[7]? = some (.pointer (some ⟨g7, 0, none⟩)) := by rw [ha]; exact (putSel_off rfl).trans rfl
                have e86 : a.tmps[86]? = some (.bool false) := by rw [ha]; exact putSel_on (e := (16, 86, .bool false)) 15 rfl rfl (hon 16 (by kernel_rfl)) rfl
                replace ha := Aside0.mk ha
                have HW := Aside0.mk Q_HW
                obtain ⟨q0, q1, q2, q3, q4, q5, q6, q7, q8⟩ := nine (blk_below F7.out HW.out)
                refine value_ (w1 := w') (v := .agg #[.int .i64 u1.k, .int .i64 u1.c, .int .i64 u1.q, .int .i64 u1.h, .int .i64 u1.a, .int .i64 u1.t, .slice V6 u1.p.length vm6, .slice V7 u1.s.length vm7, .slice V8 u1.r.length vm8]) (wanted_on rfl rfl rfl (e86.trans (by first | rfl | (simp [*]; done)))) rfl ?_ ?_
                · go_simp
                  (try simp only [i64_w])
                  try rfl
                refine hK.out _ _ ⟨(by rw [ha.out]; exact putSel_upk 19 hb_ rfl rfl rfl), Q_HW⟩
              refine steps_cons ?_ ?_
              · rintro b a w' ⟨ha, Q_HW⟩ hb_ hon hoff
                refine ⟨_, rfl, fun K hK => ?_⟩
                have e8 : a.tmps[8]? = some (.pointer (some ⟨g8, 0, none⟩)) := by rw [ha]; exact (putSel_off rfl).trans rfl
                have e86 : a.tmps[86]? = some (.bool false) := by rw [ha]; exact putSel_on (e := (16, 86, .bool false)) 15 rfl rfl (hon 16 (by kernel_rfl)) rfl
                replace ha := Aside0.mk ha
                have HW := Aside0.mk Q_HW
                obtain ⟨q0, q1, q2, q3, q4, q5, q6, q7, q8⟩ := nine (blk_below F8.out HW.out)
                refine value_ (w1 := w') (v := .agg #[.int .i64 u2.k, .int .i64 u2.c, .int .i64 u2.q, .int .i64 u2.h, .int .i64 u2.a, .int .i64 u2.t, .slice U6 u2.p.length um6, .slice U7 u2.s.length um7, .slice U8 u2.r.length um8]) (wanted_on rfl rfl rfl (e86.trans (by first | rfl | (simp [*]; done)))) rfl ?_ ?_
                · go_simp
                  (try simp only [i64_w])
                  try rfl
                refine hK.out _ _ ⟨(by rw [ha.out]; exact putSel_upk 20 hb_ rfl rfl rfl), Q_HW⟩
              refine steps_cons ?_ ?_
              · rintro b a w' ⟨ha, Q_HW⟩ hb_ hon hoff
                refine ⟨_, rfl, fun K hK => ?_⟩
                have e90 : a.tmps[90]? = some (.agg #[.int .i64 u1.k, .int .i64 u1.c, .int .i64 u1.q, .int .i64 u1.h, .int .i64 u1.a, .int .i64 u1.t, .slice V6 u1.p.length vm6, .slice V7 u1.s.length vm7, .slice V8 u1.r.length vm8]) := by rw [ha]; exact putSel_on (e := (20, 90, .agg #[.int .i64 u1.k, .int .i64 u1.c, .int .i64 u1.q, .int .i64 u1.h, .int .i64 u1.a, .int .i64 u1.t, .slice V6 u1.p.length vm6, .slice V7 u1.s.length vm7, .slice V8 u1.r.length vm8])) 19 rfl rfl (hon 20 (by kernel_rfl)) rfl
                have e91 : a.tmps[91]? = some (.agg #[.int .i64 u2.k, .int .i64 u2.c, .int .i64 u2.q, .int .i64 u2.h, .int .i64 u2.a, .int .i64 u2.t, .slice U6 u2.p.length um6, .slice U7 u2.s.length um7, .slice U8 u2.r.length um8]) := by rw [ha]; exact putSel_on (e := (21, 91, .agg #[.int .i64 u2.k, .int .i64 u2.c, .int .i64 u2.q, .int .i64 u2.h, .int .i64 u2.a, .int .i64 u2.t, .slice U6 u2.p.length um6, .slice U7 u2.s.length um7, .slice U8 u2.r.length um8])) 20 rfl rfl (hon 21 (by kernel_rfl)) rfl
                have e86 : a.tmps[86]? = some (.bool false) := by rw [ha]; exact putSel_on (e := (16, 86, .bool false)) 15 rfl rfl (hon 16 (by kernel_rfl)) rfl
                replace ha := Aside0.mk ha
                have HW := Aside0.mk Q_HW
                refine goes_ Tryd.func19 (by kernel_rfl) rfl #[.agg #[.int .i64 u1.k, .int .i64 u1.c, .int .i64 u1.q, .int .i64 u1.h, .int .i64 u1.a, .int .i64 u1.t, .slice V6 u1.p.length vm6, .slice V7 u1.s.length vm7, .slice V8 u1.r.length vm8], .agg #[.int .i64 u2.k, .int .i64 u2.c, .int .i64 u2.q, .int .i64 u2.h, .int .i64 u2.a, .int .i64 u2.t, .slice U6 u2.p.length um6, .slice U7 u2.s.length um7, .slice U8 u2.r.length um8]] (wanted_on rfl rfl rfl e86) rfl rfl (by simp only [List.map_toArray, List.map_cons, List.map_nil, Act.eval, Array.getD_eq_getD_getElem?, Option.getD_some, e90, e91]) ?_
                refine (ops_calls u1 V6 vm6 V7 vm7 V8 vm8 u2 U6 um6 U7 um7 U8 um8 w' (Lies.below L1.out HW.out) (Lies.below L2.out HW.out)).mono ?_
                rintro e w2 ⟨he, hB⟩
                rw [HSXY.out] at he
                subst he
                refine ⟨_, rfl, ?_⟩
                refine hK.out _ _ ⟨(by rw [ha.out]; exact putSel_upk 21 hb_ rfl rfl rfl), below_step HW.out hB⟩
              refine steps_cons ?_ ?_
              · rintro b a w' ⟨ha, Q_HW⟩ hb_ hon hoff
                refine ⟨_, rfl, fun K hK => ?_⟩
                have e89 : a.tmps[89]? = some (.bool sxy) := by rw [ha]; exact putSel_on (e := (19, 89, .bool sxy)) 18 rfl rfl (hon 19 (by kernel_rfl)) rfl
                have e92 : a.tmps[92]? = some (.bool sxy) := by rw [ha]; exact putSel_on (e := (22, 92, .bool sxy)) 21 rfl rfl (hon 22 (by kernel_rfl)) rfl
                have e86 : a.tmps[86]? = some (.bool false) := by rw [ha]; exact putSel_on (e := (16, 86, .bool false)) 15 rfl rfl (hon 16 (by kernel_rfl)) rfl
                replace ha := Aside0.mk ha
                have HW := Aside0.mk Q_HW
                refine value_ (w1 := w') (v := .bool false) (wanted_on rfl rfl rfl (e86.trans (by first | rfl | (simp [*]; done)))) rfl ?_ ?_
                · go_simp
                  (try simp only [i64_w])
                  try rfl
                refine hK.out _ _ ⟨(by rw [ha.out]; exact putSel_upk 22 hb_ rfl rfl rfl), Q_HW⟩
              refine steps_cons ?_ ?_
              · rintro b a w' ⟨ha, Q_HW⟩ hb_ hon hoff
                refine ⟨_, rfl, fun K hK => ?_⟩
                have e86 : a.tmps[86]? = some (.bool false) := by rw [ha]; exact putSel_on (e := (16, 86, .bool false)) 15 rfl rfl (hon 16 (by kernel_rfl)) rfl
                have e93 : a.tmps[93]? = some (.bool false) := by rw [ha]; exact putSel_on (e := (23, 93, .bool false)) 22 rfl rfl (hon 23 (by kernel_rfl)) rfl
                replace ha := Aside0.mk ha
                have HW := Aside0.mk Q_HW
                refine value_ (w1 := w') (v := .bool false) (by rfl) rfl ?_ ?_
                · go_simp
                  (try simp only [i64_w])
                  try rfl
                refine hK.out _ _ ⟨(by rw [ha.out]; exact putSel_upk 23 hb_ rfl rfl rfl), Q_HW⟩
              exact steps_nil
            · rintro b a w' hall ⟨ha, Q_HW⟩
              clear HW
              have hb0_ := hall 0 (by kernel_rfl)
              have hb1_ := hall 1 (by kernel_rfl)
              have hb3_ := hall 3 (by kernel_rfl)
              have hb4_ := hall 4 (by kernel_rfl)
              have hb5_ := hall 5 (by kernel_rfl)
              have hb6_ := hall 6 (by kernel_rfl)
              have hb7_ := hall 7 (by kernel_rfl)
              have hb8_ := hall 8 (by kernel_rfl)
              have hb9_ := hall 9 (by kernel_rfl)
              have hb10_ := hall 10 (by kernel_rfl)
              have hb11_ := hall 11 (by kernel_rfl)
              have hb12_ := hall 12 (by kernel_rfl)
              have hb13_ := hall 13 (by kernel_rfl)
              have hb14_ := hall 14 (by kernel_rfl)
              have hb15_ := hall 15 (by kernel_rfl)
              have hb16_ := hall 16 (by kernel_rfl)
              have hb17_ := hall 17 (by kernel_rfl)
              have hb18_ := hall 18 (by kernel_rfl)
              have hb19_ := hall 19 (by kernel_rfl)
              have hb20_ := hall 20 (by kernel_rfl)
              have hb21_ := hall 21 (by kernel_rfl)
              have hb22_ := hall 22 (by kernel_rfl)
              have hb23_ := hall 23 (by kernel_rfl)
              have hb24_ := hall 24 (by kernel_rfl)
              subst ha
              simp only [putSel, hb0_, hb1_, hb3_, hb4_, hb5_, hb6_, hb7_, hb8_, hb9_, hb10_, hb11_, hb12_, hb13_, hb14_, hb15_, hb16_, hb17_, hb18_, hb19_, hb20_, hb21_, hb22_, hb23_, hb24_, if_true, Act.put, List.setIfInBounds_toArray, List.set_cons_zero, List.set_cons_succ]
              have HW := Aside0.mk Q_HW
              clear Q_HW
              clear hall hb0_ hb1_ hb3_ hb4_ hb5_ hb6_ hb7_ hb8_ hb9_ hb10_ hb11_ hb12_ hb13_ hb14_ hb15_ hb16_ hb17_ hb18_ hb19_ hb20_ hb21_ hb22_ hb23_ hb24_
              have HWk := Aside0.mk (below_step HWw.out (below_step HW0.out HW.out))
              replace HCh := Aside0.mk (Go.Proofs.YtbplemhjhpfkgaaDoor.Ft.Chain.below HW.out HCh.out)
              go_wp2_with (first | (replace HK8 := HK8; go_at_call 3; refine (Cr.codeRuns_calls _ (Go.Proofs.YtbplemhjhpfkgaaDoor.Ft.Door.below HG.out HK8.out)).mono ?_; rintro e w9 ⟨rfl, hB⟩; have HWf := Aside0.mk (below_step HK8.out hB); clear hB) | (replace HK7 := HK7; go_at_call 30; refine (place_calls _ _ _ _ _ (Go.Proofs.YtbplemhjhpfkgaaDoor.Ft.Door.below HG.out HK7.out) HCh.out).mono ?_; rintro e w7 ⟨rfl, hB⟩; have HK8 := Aside0.mk (below_step HK7.out hB); clear hB) | (go_at_call 15; refine (kind_calls _ _ _ _ (Go.Proofs.YtbplemhjhpfkgaaDoor.Ft.Door.below HG.out HWk.out) HCh.out).mono ?_; rintro e w7 ⟨rfl, hB⟩; have HK7 := Aside0.mk (below_step HWk.out hB); replace HCh := Aside0.mk (Go.Proofs.YtbplemhjhpfkgaaDoor.Ft.Chain.below hB HCh.out); clear hB))
              go_ret
              exact ⟨rfl, HWf.out⟩
          | true =>
            have HRD : Hid (rightD u1 = true) := HRD0
            obtain ⟨pb, hpb⟩ : ∃ b, oBy u1 = b := ⟨_, rfl⟩
            have HPB := Lib.hid hpb
            have HDec : Hid (∀ A cc W, Kd.C (Kd.int .u8) W A pb.length pb → Calls Tryd.prog 31 #[.slice A pb.length cc] W fun e w' => ∃ Q6 qm6 Q7 qm7 Q8 qm8, e = .returned (.tuple #[.agg #[.int .i64 u1.k, .int .i64 u1.c, .int .i64 u1.q, .int .i64 u1.h, .int .i64 u1.a, .int .i64 u1.t, .slice Q6 u1.p.length qm6, .slice Q7 u1.s.length qm7, .slice Q8 u1.r.length qm8], .nilIface]) ∧ Lies w' u1 Q6 Q7 Q8 ∧ Below W.heap.size W w') := Lib.hid (fun A cc W h => by
              have hd := decode_ok A cc u1 W (by rw [hpb]; exact h) HRD.out D1.out E1.out
              rw [hpb] at hd
              refine hd.mono ?_
              rintro e w' ⟨⟨o2, ⟨Q6, qm6⟩, ⟨Q7, qm7⟩, ⟨Q8, qm8⟩⟩, hx, rfl, hL, _, hB⟩
              obtain rfl : o2 = u1 := hx
              exact ⟨Q6, qm6, Q7, qm7, Q8, qm8, rfl, hL, hB⟩)
            have hinj : rightD u2 = true → decide (pb = oBy u2) = sxy := fun h2 => by rw [← hpb, oBy_inj HRD.out h2 D1.out D2.out E1.out E2.out]; exact HSXY.out
            have HINJ := Lib.hid hinj
            clear hpb hinj
            obtain ⟨q0, q1, q2, q3, q4, q5, q6, q7, q8⟩ := nine F7.out
            have hlq := blk_lt F7.out
            go_upto_region 11 with (go_at_call 14; refine (enc_right u1 V6 vm6 V7 vm7 V8 vm8 _ L1.out E1.out HRD.out).mono ?_; rintro e w3 ⟨vb, rfl, hR, hB⟩; replace hR := oBy_R hR HPB.out; obtain ⟨Ap, cp, rfl, hcp, hCp⟩ := Kd.R_reads hR; have HCp := Aside0.mk hCp; clear q0 q1 q2 q3 q4 q5 q6 q7 q8 hlq hR hCp; replace HW := Aside0.mk (below_step HW.out hB); replace L1 := Aside0.mk (Lies.below L1.out hB); replace L2 := Aside0.mk (Lies.below L2.out hB); replace F7 := Aside0.mk (blk_below F7.out hB); replace F8 := Aside0.mk (blk_below F8.out hB); clear hB)
            obtain ⟨q0, q1, q2, q3, q4, q5, q6, q7, q8⟩ := nine F8.out
            have hlq := blk_lt F8.out
            go_upto_region 12 with (go_at_call 14; refine (HEn2.out _ L2.out).mono ?_; rintro e w4 ⟨Aq, cq, bq, fv, rfl, hfv, hcq, hCq, hB⟩; replace HCp := Aside0.mk (Kd.C_below HCp.out hB); have HCq := Aside0.mk hCq; clear q0 q1 q2 q3 q4 q5 q6 q7 q8 hlq hCq; replace HW := Aside0.mk (below_step HW.out hB); replace L1 := Aside0.mk (Lies.below L1.out hB); replace L2 := Aside0.mk (Lies.below L2.out hB); replace F7 := Aside0.mk (blk_below F7.out hB); replace F8 := Aside0.mk (blk_below F8.out hB); clear hB)
            have HFV := Lib.hid hfv
            clear hfv
            have HW0 := HW
            clear HW
            have HW := Aside0.mk (Below.refl w4.heap.size w4)
            refine start_ (n := 25) (S := fun w' => True) (ds := []) #[false, false, false, false, false, false, false, false, false, false, false, false, false, false, false, false, false, false, false, false, false, false, false, false, false] (by kernel_rfl) rfl rfl trivial (fun hHeld => ?_)
            refine with_tabW bk12true.tab12 bk12true.bits12 (fun HT_ HW_ => ?_)
            refine pure_ (i := 2) (N := some 72) (v := ?_) (a' := ?_) #[false, false, true, false, false, false, false, false, false, false, false, false, false, false, false, false, false, false, false, false, false, false, false, false, false] rfl rfl (any_of HT_.out (by kernel_rfl)) (fun _ _ _ h => h) (Or.inl ⟨by rfl, ?_⟩) ?_ ?_
            rotate_left
            · intro w'
              go_simp
              with_reducible rfl
            rotate_left
            · simp only [Act.put, List.setIfInBounds_toArray, List.set_cons_zero, List.set_cons_succ, i64_w, i32_w]
              rfl
            refine inv_at [0, 1, 3, 4, 5, 6, 7, 8, 9, 10, 11, 12, 13, 14, 15, 16, 17, 18, 19, 20, 21, 22, 23, 24] (fun a0_ b a w' => a = putSel a0_ b [(0, 70, .agg #[.int .i64 u1.k, .int .i64 u1.c, .int .i64 u1.q, .int .i64 u1.h, .int .i64 u1.a, .int .i64 u1.t, .slice V6 u1.p.length vm6, .slice V7 u1.s.length vm7, .slice V8 u1.r.length vm8]), (1, 71, .bool true), (3, 73, .bool false), (4, 74, .bool false), (5, 75, .nilIface), (6, 76, .bool true), (7, 77, .bool true), (8, 78, .bool false), (9, 79, .bool false), (10, 80, .bool false), (11, 81, .agg #[.int .i64 u1.k, .int .i64 u1.c, .int .i64 u1.q, .int .i64 u1.h, .int .i64 u1.a, .int .i64 u1.t, .slice V6 u1.p.length vm6, .slice V7 u1.s.length vm7, .slice V8 u1.r.length vm8]), (12, 82, .agg #[.int .i64 u1.k, .int .i64 u1.c, .int .i64 u1.q, .int .i64 u1.h, .int .i64 u1.a, .int .i64 u1.t, .slice V6 u1.p.length vm6, .slice V7 u1.s.length vm7, .slice V8 u1.r.length vm8]), (13, 83, .bool true), (14, 84, .bool false), (15, 85, .bool false), (16, 86, .bool false), (17, 87, .agg #[.int .i64 u1.k, .int .i64 u1.c, .int .i64 u1.q, .int .i64 u1.h, .int .i64 u1.a, .int .i64 u1.t, .slice V6 u1.p.length vm6, .slice V7 u1.s.length vm7, .slice V8 u1.r.length vm8]), (18, 88, .agg #[.int .i64 u2.k, .int .i64 u2.c, .int .i64 u2.q, .int .i64 u2.h, .int .i64 u2.a, .int .i64 u2.t, .slice U6 u2.p.length um6, .slice U7 u2.s.length um7, .slice U8 u2.r.length um8]), (19, 89, .bool sxy), (20, 90, .agg #[.int .i64 u1.k, .int .i64 u1.c, .int .i64 u1.q, .int .i64 u1.h, .int .i64 u1.a, .int .i64 u1.t, .slice V6 u1.p.length vm6, .slice V7 u1.s.length vm7, .slice V8 u1.r.length vm8]), (21, 91, .agg #[.int .i64 u2.k, .int .i64 u2.c, .int .i64 u2.q, .int .i64 u2.h, .int .i64 u2.a, .int .i64 u2.t, .slice U6 u2.p.length um6, .slice U7 u2.s.length um7, .slice U8 u2.r.length um8]), (22, 92, .bool sxy), (23, 93, .bool false), (24, 94, .bool false)] ∧ (Below w4.heap.size w4 w')) HT_.out HW_.out (by kernel_rfl) (by kernel_rfl) ?_ ?_ ?_
            · exact ⟨by simp only [putSel, Bool.false_eq_true, if_false], below_drew HW.out⟩
            · skip
              clear HW
              refine steps_cons ?_ ?_
              · rintro b a w' ⟨ha, Q_HW⟩ hb_ hon hoff
                refine ⟨_, rfl, fun K hK => ?_⟩
                have e7 : a.tmps[7]? = some (.pointer (some ⟨g7, 0, none⟩)) := by rw [ha]; exact (putSel_off rfl).trans rfl
                replace ha := Aside0.mk ha
                have HW := Aside0.mk Q_HW
                obtain ⟨q0, q1, q2, q3, q4, q5, q6, q7, q8⟩ := nine (blk_below F7.out HW.out)
                refine value_ (w1 := w') (v := .agg #[.int .i64 u1.k, .int .i64 u1.c, .int .i64 u1.q, .int .i64 u1.h, .int .i64 u1.a, .int .i64 u1.t, .slice V6 u1.p.length vm6, .slice V7 u1.s.length vm7, .slice V8 u1.r.length vm8]) (by rfl) rfl ?_ ?_
                · go_simp
                  (try simp only [i64_w])
                  try rfl
                refine hK.out _ _ ⟨(by rw [ha.out]; exact putSel_upk 0 hb_ rfl rfl rfl), Q_HW⟩
              refine steps_cons ?_ ?_
              · rintro b a w' ⟨ha, Q_HW⟩ hb_ hon hoff
                refine ⟨_, rfl, fun K hK => ?_⟩
                have e70 : a.tmps[70]? = some (.agg #[.int .i64 u1.k, .int .i64 u1.c, .int .i64 u1.q, .int .i64 u1.h, .int .i64 u1.a, .int .i64 u1.t, .slice V6 u1.p.length vm6, .slice V7 u1.s.length vm7, .slice V8 u1.r.length vm8]) := by rw [ha]; exact putSel_on (e := (0, 70, .agg #[.int .i64 u1.k, .int .i64 u1.c, .int .i64 u1.q, .int .i64 u1.h, .int .i64 u1.a, .int .i64 u1.t, .slice V6 u1.p.length vm6, .slice V7 u1.s.length vm7, .slice V8 u1.r.length vm8])) 0 rfl rfl (hon 0 (by kernel_rfl)) rfl
                replace ha := Aside0.mk ha
                have HW := Aside0.mk Q_HW
                refine goes_ Tryd.func20 (by kernel_rfl) rfl #[.agg #[.int .i64 u1.k, .int .i64 u1.c, .int .i64 u1.q, .int .i64 u1.h, .int .i64 u1.a, .int .i64 u1.t, .slice V6 u1.p.length vm6, .slice V7 u1.s.length vm7, .slice V8 u1.r.length vm8]] (by rfl) rfl rfl (by simp only [List.map_toArray, List.map_cons, List.map_nil, Act.eval, Array.getD_eq_getD_getElem?, Option.getD_some, e70]) ?_
                refine (right_calls u1 V6 vm6 V7 vm7 V8 vm8 w' (Lies.below L1.out HW.out) E1.out).mono ?_
                rintro e w2 ⟨he, hB⟩
                rw [HRD.out] at he
                subst he
                refine ⟨_, rfl, ?_⟩
                refine hK.out _ _ ⟨(by rw [ha.out]; exact putSel_upk 1 hb_ rfl rfl rfl), below_step HW.out hB⟩
              refine steps_cons ?_ ?_
              · rintro b a w' ⟨ha, Q_HW⟩ hb_ hon hoff
                refine ⟨_, rfl, fun K hK => ?_⟩
                have e71 : a.tmps[71]? = some (.bool true) := by rw [ha]; exact putSel_on (e := (1, 71, .bool true)) 1 rfl rfl (hon 1 (by kernel_rfl)) rfl
                have e72 : a.tmps[72]? = some (.bool true) := by rw [ha]; exact (putSel_off rfl).trans rfl
                replace ha := Aside0.mk ha
                have HW := Aside0.mk Q_HW
                refine value_ (w1 := w') (v := .bool false) (by rfl) rfl ?_ ?_
                · go_simp
                  (try simp only [i64_w])
                  try rfl
                refine hK.out _ _ ⟨(by rw [ha.out]; exact putSel_upk 2 hb_ rfl rfl rfl), Q_HW⟩
              refine steps_cons ?_ ?_
              · rintro b a w' ⟨ha, Q_HW⟩ hb_ hon hoff
                refine ⟨_, rfl, fun K hK => ?_⟩
                have e73 : a.tmps[73]? = some (.bool false) := by rw [ha]; exact putSel_on (e := (3, 73, .bool false)) 2 rfl rfl (hon 3 (by kernel_rfl)) rfl
                replace ha := Aside0.mk ha
                have HW := Aside0.mk Q_HW
                refine value_ (w1 := w') (v := .bool false) (by rfl) rfl ?_ ?_
                · go_simp
                  (try simp only [i64_w])
                  try rfl
                refine hK.out _ _ ⟨(by rw [ha.out]; exact putSel_upk 3 hb_ rfl rfl rfl), Q_HW⟩
              refine steps_cons ?_ ?_
              · rintro b a w' ⟨ha, Q_HW⟩ hb_ hon hoff
                refine ⟨_, rfl, fun K hK => ?_⟩
                have e13 : a.tmps[13]? = some (.nilIface) := by rw [ha]; exact (putSel_off rfl).trans rfl
                have e74 : a.tmps[74]? = some (.bool false) := by rw [ha]; exact putSel_on (e := (4, 74, .bool false)) 3 rfl rfl (hon 4 (by kernel_rfl)) rfl
                replace ha := Aside0.mk ha
                have HW := Aside0.mk Q_HW
                refine value_ (w1 := w') (v := .nilIface) (wanted_on rfl rfl rfl (e74.trans (by first | rfl | (simp [*]; done)))) rfl ?_ ?_
                · go_simp
                  (try simp only [i64_w])
                  try rfl
                refine hK.out _ _ ⟨(by rw [ha.out]; exact putSel_upk 4 hb_ rfl rfl rfl), Q_HW⟩
              refine steps_cons ?_ ?_
              · rintro b a w' ⟨ha, Q_HW⟩ hb_ hon hoff
                refine ⟨_, rfl, fun K hK => ?_⟩
                have e75 : a.tmps[75]? = some (.nilIface) := by rw [ha]; exact putSel_on (e := (5, 75, .nilIface)) 4 rfl rfl (hon 5 (by kernel_rfl)) rfl
                have e74 : a.tmps[74]? = some (.bool false) := by rw [ha]; exact putSel_on (e := (4, 74, .bool false)) 3 rfl rfl (hon 4 (by kernel_rfl)) rfl
                replace ha := Aside0.mk ha
                have HW := Aside0.mk Q_HW
                refine value_ (w1 := w') (v := .bool true) (wanted_on rfl rfl rfl (e74.trans (by first | rfl | (simp [*]; done)))) rfl ?_ ?_
                · go_simp
                  (try simp only [i64_w])
                  try rfl
                refine hK.out _ _ ⟨(by rw [ha.out]; exact putSel_upk 5 hb_ rfl rfl rfl), Q_HW⟩
              refine steps_cons ?_ ?_
              · rintro b a w' ⟨ha, Q_HW⟩ hb_ hon hoff
                refine ⟨_, rfl, fun K hK => ?_⟩
                have e9 : a.tmps[9]? = some (.bool true) := by rw [ha]; exact (putSel_off rfl).trans rfl
                have e74 : a.tmps[74]? = some (.bool false) := by rw [ha]; exact putSel_on (e := (4, 74, .bool false)) 3 rfl rfl (hon 4 (by kernel_rfl)) rfl
                replace ha := Aside0.mk ha
                have HW := Aside0.mk Q_HW
                refine value_ (w1 := w') (v := .bool true) (wanted_on rfl rfl rfl (e74.trans (by first | rfl | (simp [*]; done)))) rfl ?_ ?_
                · go_simp
                  (try simp only [i64_w])
                  try rfl
                refine hK.out _ _ ⟨(by rw [ha.out]; exact putSel_upk 6 hb_ rfl rfl rfl), Q_HW⟩
              refine steps_cons ?_ ?_
              · rintro b a w' ⟨ha, Q_HW⟩ hb_ hon hoff
                refine ⟨_, rfl, fun K hK => ?_⟩
                have e76 : a.tmps[76]? = some (.bool true) := by rw [ha]; exact putSel_on (e := (6, 76, .bool true)) 5 rfl rfl (hon 6 (by kernel_rfl)) rfl
                have e77 : a.tmps[77]? = some (.bool true) := by rw [ha]; exact putSel_on (e := (7, 77, .bool true)) 6 rfl rfl (hon 7 (by kernel_rfl)) rfl
                have e74 : a.tmps[74]? = some (.bool false) := by rw [ha]; exact putSel_on (e := (4, 74, .bool false)) 3 rfl rfl (hon 4 (by kernel_rfl)) rfl
                replace ha := Aside0.mk ha
                have HW := Aside0.mk Q_HW
                refine value_ (w1 := w') (v := .bool false) (wanted_on rfl rfl rfl (e74.trans (by first | rfl | (simp [*]; done)))) rfl ?_ ?_
                · go_simp
                  (try simp only [i64_w])
                  try rfl
                refine hK.out _ _ ⟨(by rw [ha.out]; exact putSel_upk 7 hb_ rfl rfl rfl), Q_HW⟩
              refine steps_cons ?_ ?_
              · rintro b a w' ⟨ha, Q_HW⟩ hb_ hon hoff
                refine ⟨_, rfl, fun K hK => ?_⟩
                have e74 : a.tmps[74]? = some (.bool false) := by rw [ha]; exact putSel_on (e := (4, 74, .bool false)) 3 rfl rfl (hon 4 (by kernel_rfl)) rfl
                have e78 : a.tmps[78]? = some (.bool false) := by rw [ha]; exact putSel_on (e := (8, 78, .bool false)) 7 rfl rfl (hon 8 (by kernel_rfl)) rfl
                replace ha := Aside0.mk ha
                have HW := Aside0.mk Q_HW
                refine value_ (w1 := w') (v := .bool false) (by rfl) rfl ?_ ?_
                · go_simp
                  (try simp only [i64_w])
                  try rfl
                refine hK.out _ _ ⟨(by rw [ha.out]; exact putSel_upk 8 hb_ rfl rfl rfl), Q_HW⟩
              refine steps_cons ?_ ?_
              · rintro b a w' ⟨ha, Q_HW⟩ hb_ hon hoff
                refine ⟨_, rfl, fun K hK => ?_⟩
                have e79 : a.tmps[79]? = some (.bool false) := by rw [ha]; exact putSel_on (e := (9, 79, .bool false)) 8 rfl rfl (hon 9 (by kernel_rfl)) rfl
                replace ha := Aside0.mk ha
                have HW := Aside0.mk Q_HW
                refine value_ (w1 := w') (v := .bool false) (by rfl) rfl ?_ ?_
                · go_simp
                  (try simp only [i64_w])
                  try rfl
                refine hK.out _ _ ⟨(by rw [ha.out]; exact putSel_upk 9 hb_ rfl rfl rfl), Q_HW⟩
              refine steps_cons ?_ ?_
              · rintro b a w' ⟨ha, Q_HW⟩ hb_ hon hoff
                refine ⟨_, rfl, fun K hK => ?_⟩
                have e7 : a.tmps[7]? = some (.pointer (some ⟨g7, 0, none⟩)) := by rw [ha]; exact (putSel_off rfl).trans rfl
                have e80 : a.tmps[80]? = some (.bool false) := by rw [ha]; exact putSel_on (e := (10, 80, .bool false)) 9 rfl rfl (hon 10 (by kernel_rfl)) rfl
                replace ha := Aside0.mk ha
                have HW := Aside0.mk Q_HW
                obtain ⟨q0, q1, q2, q3, q4, q5, q6, q7, q8⟩ := nine (blk_below F7.out HW.out)
                refine value_ (w1 := w') (v := .agg #[.int .i64 u1.k, .int .i64 u1.c, .int .i64 u1.q, .int .i64 u1.h, .int .i64 u1.a, .int .i64 u1.t, .slice V6 u1.p.length vm6, .slice V7 u1.s.length vm7, .slice V8 u1.r.length vm8]) (wanted_on rfl rfl rfl (e80.trans (by first | rfl | (simp [*]; done)))) rfl ?_ ?_
                · go_simp
                  (try simp only [i64_w])
                  try rfl
                refine hK.out _ _ ⟨(by rw [ha.out]; exact putSel_upk 10 hb_ rfl rfl rfl), Q_HW⟩
              refine steps_cons ?_ ?_
              · rintro b a w' ⟨ha, Q_HW⟩ hb_ hon hoff
                refine ⟨_, rfl, fun K hK => ?_⟩
                have e7 : a.tmps[7]? = some (.pointer (some ⟨g7, 0, none⟩)) := by rw [ha]; exact (putSel_off rfl).trans rfl
                have e80 : a.tmps[80]? = some (.bool false) := by rw [ha]; exact putSel_on (e := (10, 80, .bool false)) 9 rfl rfl (hon 10 (by kernel_rfl)) rfl
                replace ha := Aside0.mk ha
                have HW := Aside0.mk Q_HW
                obtain ⟨q0, q1, q2, q3, q4, q5, q6, q7, q8⟩ := nine (blk_below F7.out HW.out)
                refine value_ (w1 := w') (v := .agg #[.int .i64 u1.k, .int .i64 u1.c, .int .i64 u1.q, .int .i64 u1.h, .int .i64 u1.a, .int .i64 u1.t, .slice V6 u1.p.length vm6, .slice V7 u1.s.length vm7, .slice V8 u1.r.length vm8]) (wanted_on rfl rfl rfl (e80.trans (by first | rfl | (simp [*]; done)))) rfl ?_ ?_
                · go_simp
                  (try simp only [i64_w])
                  try rfl
                refine hK.out _ _ ⟨(by rw [ha.out]; exact putSel_upk 11 hb_ rfl rfl rfl), Q_HW⟩
              refine steps_cons ?_ ?_
              · rintro b a w' ⟨ha, Q_HW⟩ hb_ hon hoff
                refine ⟨_, rfl, fun K hK => ?_⟩
                have e81 : a.tmps[81]? = some (.agg #[.int .i64 u1.k, .int .i64 u1.c, .int .i64 u1.q, .int .i64 u1.h, .int .i64 u1.a, .int .i64 u1.t, .slice V6 u1.p.length vm6, .slice V7 u1.s.length vm7, .slice V8 u1.r.length vm8]) := by rw [ha]; exact putSel_on (e := (11, 81, .agg #[.int .i64 u1.k, .int .i64 u1.c, .int .i64 u1.q, .int .i64 u1.h, .int .i64 u1.a, .int .i64 u1.t, .slice V6 u1.p.length vm6, .slice V7 u1.s.length vm7, .slice V8 u1.r.length vm8])) 10 rfl rfl (hon 11 (by kernel_rfl)) rfl
                have e82 : a.tmps[82]? = some (.agg #[.int .i64 u1.k, .int .i64 u1.c, .int .i64 u1.q, .int .i64 u1.h, .int .i64 u1.a, .int .i64 u1.t, .slice V6 u1.p.length vm6, .slice V7 u1.s.length vm7, .slice V8 u1.r.length vm8]) := by rw [ha]; exact putSel_on (e := (12, 82, .agg #[.int .i64 u1.k, .int .i64 u1.c, .int .i64 u1.q, .int .i64 u1.h, .int .i64 u1.a, .int .i64 u1.t, .slice V6 u1.p.length vm6, .slice V7 u1.s.length vm7, .slice V8 u1.r.length vm8])) 11 rfl rfl (hon 12 (by kernel_rfl)) rfl
                have e80 : a.tmps[80]? = some (.bool false) := by rw [ha]; exact putSel_on (e := (10, 80, .bool false)) 9 rfl rfl (hon 10 (by kernel_rfl)) rfl
                replace ha := Aside0.mk ha
                have HW := Aside0.mk Q_HW
                refine goes_ Tryd.func29 (by kernel_rfl) rfl #[.agg #[.int .i64 u1.k, .int .i64 u1.c, .int .i64 u1.q, .int .i64 u1.h, .int .i64 u1.a, .int .i64 u1.t, .slice V6 u1.p.length vm6, .slice V7 u1.s.length vm7, .slice V8 u1.r.length vm8], .agg #[.int .i64 u1.k, .int .i64 u1.c, .int .i64 u1.q, .int .i64 u1.h, .int .i64 u1.a, .int .i64 u1.t, .slice V6 u1.p.length vm6, .slice V7 u1.s.length vm7, .slice V8 u1.r.length vm8]] (wanted_on rfl rfl rfl e80) rfl rfl (by simp only [List.map_toArray, List.map_cons, List.map_nil, Act.eval, Array.getD_eq_getD_getElem?, Option.getD_some, e81, e82]) ?_
                refine (same_calls u1 V6 vm6 V7 vm7 V8 vm8 u1 V6 vm6 V7 vm7 V8 vm8 w' (Lies.below L1.out HW.out) (Lies.below L1.out HW.out) E1.out E1.out).mono ?_
                rintro e w2 ⟨he, hB⟩
                rw [HSX.out] at he
                subst he
                refine ⟨_, rfl, ?_⟩
                refine hK.out _ _ ⟨(by rw [ha.out]; exact putSel_upk 12 hb_ rfl rfl rfl), below_step HW.out hB⟩
              refine steps_cons ?_ ?_
              · rintro b a w' ⟨ha, Q_HW⟩ hb_ hon hoff
                refine ⟨_, rfl, fun K hK => ?_⟩
                have e83 : a.tmps[83]? = some (.bool true) := by rw [ha]; exact putSel_on (e := (13, 83, .bool true)) 12 rfl rfl (hon 13 (by kernel_rfl)) rfl
                have e80 : a.tmps[80]? = some (.bool false) := by rw [ha]; exact putSel_on (e := (10, 80, .bool false)) 9 rfl rfl (hon 10 (by kernel_rfl)) rfl
                replace ha := Aside0.mk ha
                have HW := Aside0.mk Q_HW
                refine value_ (w1 := w') (v := .bool false) (wanted_on rfl rfl rfl (e80.trans (by first | rfl | (simp [*]; done)))) rfl ?_ ?_
                · go_simp
                  (try simp only [i64_w])
                  try rfl
                refine hK.out _ _ ⟨(by rw [ha.out]; exact putSel_upk 13 hb_ rfl rfl rfl), Q_HW⟩
              refine steps_cons ?_ ?_
              · rintro b a w' ⟨ha, Q_HW⟩ hb_ hon hoff
                refine ⟨_, rfl, fun K hK => ?_⟩
                have e80 : a.tmps[80]? = some (.bool false) := by rw [ha]; exact putSel_on (e := (10, 80, .bool false)) 9 rfl rfl (hon 10 (by kernel_rfl)) rfl
                have e84 : a.tmps[84]? = some (.bool false) := by rw [ha]; exact putSel_on (e := (14, 84, .bool false)) 13 rfl rfl (hon 14 (by kernel_rfl)) rfl
                replace ha := Aside0.mk ha
                have HW := Aside0.mk Q_HW
                refine value_ (w1 := w') (v := .bool false) (by rfl) rfl ?_ ?_
                · go_simp
                  (try simp only [i64_w])
                  try rfl
                refine hK.out _ _ ⟨(by rw [ha.out]; exact putSel_upk 14 hb_ rfl rfl rfl), Q_HW⟩
              refine steps_cons ?_ ?_
              · rintro b a w' ⟨ha, Q_HW⟩ hb_ hon hoff
                refine ⟨_, rfl, fun K hK => ?_⟩
                have e85 : a.tmps[85]? = some (.bool false) := by rw [ha]; exact putSel_on (e := (15, 85, .bool false)) 14 rfl rfl (hon 15 (by kernel_rfl)) rfl
                replace ha := Aside0.mk ha
                have HW := Aside0.mk Q_HW
                refine value_ (w1 := w') (v := .bool false) (by rfl) rfl ?_ ?_
                · go_simp
                  (try simp only [i64_w])
                  try rfl
                refine hK.out _ _ ⟨(by rw [ha.out]; exact putSel_upk 15 hb_ rfl rfl rfl), Q_HW⟩
              refine steps_cons ?_ ?_
              · rintro b a w' ⟨ha, Q_HW⟩ hb_ hon hoff
                refine ⟨_, rfl, fun K hK => ?_⟩
                have e7 : a.tmps[7]? = some (.pointer (some ⟨g7, 0, none⟩)) := by rw [ha]; exact (putSel_off rfl).trans rfl
                have e86 : a.tmps[86]? = some (.bool false) := by rw [ha]; exact putSel_on (e := (16, 86, .bool false)) 15 rfl rfl (hon 16 (by kernel_rfl)) rfl
                replace ha := Aside0.mk ha
                have HW := Aside0.mk Q_HW
                obtain ⟨q0, q1, q2, q3, q4, q5, q6, q7, q8⟩ := nine (blk_below F7.out HW.out)
                refine value_ (w1 := w') (v := .agg #[.int .i64 u1.k, .int .i64 u1.c, .int .i64 u1.q, .int .i64 u1.h, .int .i64 u1.a, .int .i64 u1.t, .slice V6 u1.p.length vm6, .slice V7 u1.s.length vm7, .slice V8 u1.r.length vm8]) (wanted_on rfl rfl rfl (e86.trans (by first | rfl | (simp [*]; done)))) rfl ?_ ?_
                · go_simp
                  (try simp only [i64_w])
                  try rfl
                refine hK.out _ _ ⟨(by rw [ha.out]; exact putSel_upk 16 hb_ rfl rfl rfl), Q_HW⟩
              refine steps_cons ?_ ?_
              · rintro b a w' ⟨ha, Q_HW⟩ hb_ hon hoff
                refine ⟨_, rfl, fun K hK => ?_⟩
                have e8 : a.tmps[8]? = some (.pointer (some ⟨g8, 0, none⟩)) := by rw [ha]; exact (putSel_off rfl).trans rfl
                have e86 : a.tmps[86]? = some (.bool false) := by rw [ha]; exact putSel_on (e := (16, 86, .bool false)) 15 rfl rfl (hon 16 (by kernel_rfl)) rfl
                replace ha := Aside0.mk ha
                have HW := Aside0.mk Q_HW
                obtain ⟨q0, q1, q2, q3, q4, q5, q6, q7, q8⟩ := nine (blk_below F8.out HW.out)
                refine value_ (w1 := w') (v := .agg #[.int .i64 u2.k, .int .i64 u2.c, .int .i64 u2.q, .int .i64 u2.h, .int .i64 u2.a, .int .i64 u2.t, .slice U6 u2.p.length um6, .slice U7 u2.s.length um7, .slice U8 u2.r.length um8]) (wanted_on rfl rfl rfl (e86.trans (by first | rfl | (simp [*]; done)))) rfl ?_ ?_
                · go_simp
                  (try simp only [i64_w])
                  try rfl
                refine hK.out _ _ ⟨(by rw [ha.out]; exact putSel_upk 17 hb_ rfl rfl rfl), Q_HW⟩
              refine steps_cons ?_ ?_
              · rintro b a w' ⟨ha, Q_HW⟩ hb_ hon hoff
                refine ⟨_, rfl, fun K hK => ?_⟩
                have e87 : a.tmps[87]? = some (.agg #[.int .i64 u1.k, .int .i64 u1.c, .int .i64 u1.q, .int .i64 u1.h, .int .i64 u1.a, .int .i64 u1.t, .slice V6 u1.p.length vm6, .slice V7 u1.s.length vm7, .slice V8 u1.r.length vm8]) := by rw [ha]; exact putSel_on (e := (17, 87, .agg #[.int .i64 u1.k, .int .i64 u1.c, .int .i64 u1.q, .int .i64 u1.h, .int .i64 u1.a, .int .i64 u1.t, .slice V6 u1.p.length vm6, .slice V7 u1.s.length vm7, .slice V8 u1.r.length vm8])) 16 rfl rfl (hon 17 (by kernel_rfl)) rfl
                have e88 : a.tmps[88]? = some (.agg #[.int .i64 u2.k, .int .i64 u2.c, .int .i64 u2.q, .int .i64 u2.h, .int .i64 u2.a, .int .i64 u2.t, .slice U6 u2.p.length um6, .slice U7 u2.s.length um7, .slice U8 u2.r.length um8]) := by rw [ha]; exact putSel_on (e := (18, 88, .agg #[.int .i64 u2.k, .int .i64 u2.c, .int .i64 u2.q, .int .i64 u2.h, .int .i64 u2.a, .int .i64 u2.t, .slice U6 u2.p.length um6, .slice U7 u2.s.length um7, .slice U8 u2.r.length um8])) 17 rfl rfl (hon 18 (by kernel_rfl)) rfl
                have e86 : a.tmps[86]? = some (.bool false) := by rw [ha]; exact putSel_on (e := (16, 86, .bool false)) 15 rfl rfl (hon 16 (by kernel_rfl)) rfl
                replace ha := Aside0.mk ha
                have HW := Aside0.mk Q_HW
                refine goes_ Tryd.func29 (by kernel_rfl) rfl #[.agg #[.int .i64 u1.k, .int .i64 u1.c, .int .i64 u1.q, .int .i64 u1.h, .int .i64 u1.a, .int .i64 u1.t, .slice V6 u1.p.length vm6, .slice V7 u1.s.length vm7, .slice V8 u1.r.length vm8], .agg #[.int .i64 u2.k, .int .i64 u2.c, .int .i64 u2.q, .int .i64 u2.h, .int .i64 u2.a, .int .i64 u2.t, .slice U6 u2.p.length um6, .slice U7 u2.s.length um7, .slice U8 u2.r.length um8]] (wanted_on rfl rfl rfl e86) rfl rfl (by simp only [List.map_toArray, List.map_cons, List.map_nil, Act.eval, Array.getD_eq_getD_getElem?, Option.getD_some, e87, e88]) ?_
                refine (same_calls u1 V6 vm6 V7 vm7 V8 vm8 u2 U6 um6 U7 um7 U8 um8 w' (Lies.below L1.out HW.out) (Lies.below L2.out HW.out) E1.out E2.out).mono ?_
                rintro e w2 ⟨he, hB⟩
                rw [HSXY.out] at he
                subst he
                refine ⟨_, rfl, ?_⟩
                refine hK.out _ _ ⟨(by rw [ha.out]; exact putSel_upk 18 hb_ rfl rfl rfl), below_step HW.out hB⟩
              refine steps_cons ?_ ?_
              · rintro b a w' ⟨ha, Q_HW⟩ hb_ hon hoff
                refine ⟨_, rfl, fun K hK => ?_⟩
                have e7 : a.tmps[7]? = some (.pointer (some ⟨g7, 0, none⟩)) := by rw [ha]; exact (putSel_off rfl).trans rfl
                have e86 : a.tmps[86]? = some (.bool false) := by rw [ha]; exact putSel_on (e := (16, 86, .bool false)) 15 rfl rfl (hon 16 (by kernel_rfl)) rfl
                replace ha := Aside0.mk ha
                have HW := Aside0.mk Q_HW
                obtain ⟨q0, q1, q2, q3, q4, q5, q6, q7, q8⟩ := nine (blk_below F7.out HW.out)
                refine value_ (w1 := w') (v := .agg #[.int .i64 u1.k, .int .i64 u1.c, .int .i64 u1.q, .int .i64 u1.h, .int .i64 u1.a, .int .i64 u1.t, .slice V6 u1.p.length vm6, .slice V7 u1.s.length vm7, .slice V8 u1.r.length vm8]) (wanted_on rfl rfl rfl (e86.trans (by first | rfl | (simp [*]; done)))) rfl ?_ ?_
                · go_simp
                  (try simp only [i64_w])
                  try rfl
                refine hK.out _ _ ⟨(by rw [ha.out]; exact putSel_upk 19 hb_ rfl rfl rfl), Q_HW⟩
              refine steps_cons ?_ ?_
              · rintro b a w' ⟨ha, Q_HW⟩ hb_ hon hoff
                refine ⟨_, rfl, fun K hK => ?_⟩
                have e8 : a.tmps[8]? = some (.pointer (some ⟨g8, 0, none⟩)) := by rw [ha]; exact (putSel_off rfl).trans rfl
                have e86 : a.tmps[86]? = some (.bool false) := by rw [ha]; exact putSel_on (e := (16, 86, .bool false)) 15 rfl rfl (hon 16 (by kernel_rfl)) rfl
                replace ha := Aside0.mk ha
                have HW := Aside0.mk Q_HW
                obtain ⟨q0, q1, q2, q3, q4, q5, q6, q7, q8⟩ := nine (blk_below F8.out HW.out)
                refine value_ (w1 := w') (v := .agg #[.int .i64 u2.k, .int .i64 u2.c, .int .i64 u2.q, .int .i64 u2.h, .int .i64 u2.a, .int .i64 u2.t, .slice U6 u2.p.length um6, .slice U7 u2.s.length um7, .slice U8 u2.r.length um8]) (wanted_on rfl rfl rfl (e86.trans (by first | rfl | (simp [*]; done)))) rfl ?_ ?_
                · go_simp
                  (try simp only [i64_w])
                  try rfl
                refine hK.out _ _ ⟨(by rw [ha.out]; exact putSel_upk 20 hb_ rfl rfl rfl), Q_HW⟩
              refine steps_cons ?_ ?_
              · rintro b a w' ⟨ha, Q_HW⟩ hb_ hon hoff
                refine ⟨_, rfl, fun K hK => ?_⟩
                have e90 : a.tmps[90]? = some (.agg #[.int .i64 u1.k, .int .i64 u1.c, .int .i64 u1.q, .int .i64 u1.h, .int .i64 u1.a, .int .i64 u1.t, .slice V6 u1.p.length vm6, .slice V7 u1.s.length vm7, .slice V8 u1.r.length vm8]) := by rw [ha]; exact putSel_on (e := (20, 90, .agg #[.int .i64 u1.k, .int .i64 u1.c, .int .i64 u1.q, .int .i64 u1.h, .int .i64 u1.a, .int .i64 u1.t, .slice V6 u1.p.length vm6, .slice V7 u1.s.length vm7, .slice V8 u1.r.length vm8])) 19 rfl rfl (hon 20 (by kernel_rfl)) rfl
                have e91 : a.tmps[91]? = some (.agg #[.int .i64 u2.k, .int .i64 u2.c, .int .i64 u2.q, .int .i64 u2.h, .int .i64 u2.a, .int .i64 u2.t, .slice U6 u2.p.length um6, .slice U7 u2.s.length um7, .slice U8 u2.r.length um8]) := by rw [ha]; exact putSel_on (e := (21, 91, .agg #[.int .i64 u2.k, .int .i64 u2.c, .int .i64 u2.q, .int .i64 u2.h, .int .i64 u2.a, .int .i64 u2.t, .slice U6 u2.p.length um6, .slice U7 u2.s.length um7, .slice U8 u2.r.length um8])) 20 rfl rfl (hon 21 (by kernel_rfl)) rfl
                have e86 : a.tmps[86]? = some (.bool false) := by rw [ha]; exact putSel_on (e := (16, 86, .bool false)) 15 rfl rfl (hon 16 (by kernel_rfl)) rfl
                replace ha := Aside0.mk ha
                have HW := Aside0.mk Q_HW
                refine goes_ Tryd.func19 (by kernel_rfl) rfl #[.agg #[.int .i64 u1.k, .int .i64 u1.c, .int .i64 u1.q, .int .i64 u1.h, .int .i64 u1.a, .int .i64 u1.t, .slice V6 u1.p.length vm6, .slice V7 u1.s.length vm7, .slice V8 u1.r.length vm8], .agg #[.int .i64 u2.k, .int .i64 u2.c, .int .i64 u2.q, .int .i64 u2.h, .int .i64 u2.a, .int .i64 u2.t, .slice U6 u2.p.length um6, .slice U7 u2.s.length um7, .slice U8 u2.r.length um8]] (wanted_on rfl rfl rfl e86) rfl rfl (by simp only [List.map_toArray, List.map_cons, List.map_nil, Act.eval, Array.getD_eq_getD_getElem?, Option.getD_some, e90, e91]) ?_
                refine (ops_calls u1 V6 vm6 V7 vm7 V8 vm8 u2 U6 um6 U7 um7 U8 um8 w' (Lies.below L1.out HW.out) (Lies.below L2.out HW.out)).mono ?_
                rintro e w2 ⟨he, hB⟩
                rw [HSXY.out] at he
                subst he
                refine ⟨_, rfl, ?_⟩
                refine hK.out _ _ ⟨(by rw [ha.out]; exact putSel_upk 21 hb_ rfl rfl rfl), below_step HW.out hB⟩
              refine steps_cons ?_ ?_
              · rintro b a w' ⟨ha, Q_HW⟩ hb_ hon hoff
                refine ⟨_, rfl, fun K hK => ?_⟩
                have e89 : a.tmps[89]? = some (.bool sxy) := by rw [ha]; exact putSel_on (e := (19, 89, .bool sxy)) 18 rfl rfl (hon 19 (by kernel_rfl)) rfl
                have e92 : a.tmps[92]? = some (.bool sxy) := by rw [ha]; exact putSel_on (e := (22, 92, .bool sxy)) 21 rfl rfl (hon 22 (by kernel_rfl)) rfl
                have e86 : a.tmps[86]? = some (.bool false) := by rw [ha]; exact putSel_on (e := (16, 86, .bool false)) 15 rfl rfl (hon 16 (by kernel_rfl)) rfl
                replace ha := Aside0.mk ha
                have HW := Aside0.mk Q_HW
                refine value_ (w1 := w') (v := .bool false) (wanted_on rfl rfl rfl (e86.trans (by first | rfl | (simp [*]; done)))) rfl ?_ ?_
                · go_simp
                  (try simp only [i64_w])
                  try rfl
                refine hK.out _ _ ⟨(by rw [ha.out]; exact putSel_upk 22 hb_ rfl rfl rfl), Q_HW⟩
              refine steps_cons ?_ ?_
              · rintro b a w' ⟨ha, Q_HW⟩ hb_ hon hoff
                refine ⟨_, rfl, fun K hK => ?_⟩
                have e86 : a.tmps[86]? = some (.bool false) := by rw [ha]; exact putSel_on (e := (16, 86, .bool false)) 15 rfl rfl (hon 16 (by kernel_rfl)) rfl
                have e93 : a.tmps[93]? = some (.bool false) := by rw [ha]; exact putSel_on (e := (23, 93, .bool false)) 22 rfl rfl (hon 23 (by kernel_rfl)) rfl
                replace ha := Aside0.mk ha
                have HW := Aside0.mk Q_HW
                refine value_ (w1 := w') (v := .bool false) (by rfl) rfl ?_ ?_
                · go_simp
                  (try simp only [i64_w])
                  try rfl
                refine hK.out _ _ ⟨(by rw [ha.out]; exact putSel_upk 23 hb_ rfl rfl rfl), Q_HW⟩
              exact steps_nil
            · rintro b a w' hall ⟨ha, Q_HW⟩
              clear HW
              have hb0_ := hall 0 (by kernel_rfl)
              have hb1_ := hall 1 (by kernel_rfl)
              have hb3_ := hall 3 (by kernel_rfl)
              have hb4_ := hall 4 (by kernel_rfl)
              have hb5_ := hall 5 (by kernel_rfl)
              have hb6_ := hall 6 (by kernel_rfl)
              have hb7_ := hall 7 (by kernel_rfl)
              have hb8_ := hall 8 (by kernel_rfl)
              have hb9_ := hall 9 (by kernel_rfl)
              have hb10_ := hall 10 (by kernel_rfl)
              have hb11_ := hall 11 (by kernel_rfl)
              have hb12_ := hall 12 (by kernel_rfl)
              have hb13_ := hall 13 (by kernel_rfl)
              have hb14_ := hall 14 (by kernel_rfl)
              have hb15_ := hall 15 (by kernel_rfl)
              have hb16_ := hall 16 (by kernel_rfl)
              have hb17_ := hall 17 (by kernel_rfl)
              have hb18_ := hall 18 (by kernel_rfl)
              have hb19_ := hall 19 (by kernel_rfl)
              have hb20_ := hall 20 (by kernel_rfl)
              have hb21_ := hall 21 (by kernel_rfl)
              have hb22_ := hall 22 (by kernel_rfl)
              have hb23_ := hall 23 (by kernel_rfl)
              have hb24_ := hall 24 (by kernel_rfl)
              subst ha
              simp only [putSel, hb0_, hb1_, hb3_, hb4_, hb5_, hb6_, hb7_, hb8_, hb9_, hb10_, hb11_, hb12_, hb13_, hb14_, hb15_, hb16_, hb17_, hb18_, hb19_, hb20_, hb21_, hb22_, hb23_, hb24_, if_true, Act.put, List.setIfInBounds_toArray, List.set_cons_zero, List.set_cons_succ]
              have HW := Aside0.mk Q_HW
              clear Q_HW
              clear hall hb0_ hb1_ hb3_ hb4_ hb5_ hb6_ hb7_ hb8_ hb9_ hb10_ hb11_ hb12_ hb13_ hb14_ hb15_ hb16_ hb17_ hb18_ hb19_ hb20_ hb21_ hb22_ hb23_ hb24_
              have HW5 := Aside0.mk (below_step HW0.out HW.out)
              replace L1 := Aside0.mk (Lies.below L1.out HW.out)
              replace L2 := Aside0.mk (Lies.below L2.out HW.out)
              replace F7 := Aside0.mk (blk_below F7.out HW.out)
              replace F8 := Aside0.mk (blk_below F8.out HW.out)
              replace HCp := Aside0.mk (Kd.C_below HCp.out HW.out)
              replace HCq := Aside0.mk (Kd.C_below HCq.out HW.out)
              clear HW HW0
              rcases HFV.out with ⟨rfl, h2, hbq⟩ | ⟨tf, zf, rfl⟩
              · have HSC : Hid (decide (pb = bq) = sxy) := Lib.hid (by rw [hbq]; exact HINJ.out h2)
                clear h2 hbq HFV
                go_upto_region 17 with (go_at_call 31; refine (HDec.out Ap cp _ HCp.out).mono ?_; rintro e w5 ⟨Q6, qm6, Q7, qm7, Q8, qm8, rfl, hL, hB⟩; have hB2 := below_alloc hB (.cells #[.int .i64 u1.k, .int .i64 u1.c, .int .i64 u1.q, .int .i64 u1.h, .int .i64 u1.a, .int .i64 u1.t, .slice Q6 u1.p.length qm6, .slice Q7 u1.s.length qm7, .slice Q8 u1.r.length qm8] 30); have LZ := Aside0.mk (Lies.below hL (below_alloc (Below.refl w5.heap.size w5) (.cells #[.int .i64 u1.k, .int .i64 u1.c, .int .i64 u1.q, .int .i64 u1.h, .int .i64 u1.a, .int .i64 u1.t, .slice Q6 u1.p.length qm6, .slice Q7 u1.s.length qm7, .slice Q8 u1.r.length qm8] 30))); have FZ := Aside0.mk (blk_new w5 (.cells #[.int .i64 u1.k, .int .i64 u1.c, .int .i64 u1.q, .int .i64 u1.h, .int .i64 u1.a, .int .i64 u1.t, .slice Q6 u1.p.length qm6, .slice Q7 u1.s.length qm7, .slice Q8 u1.r.length qm8] 30)); replace L1 := Aside0.mk (Lies.below L1.out hB2); replace L2 := Aside0.mk (Lies.below L2.out hB2); replace F7 := Aside0.mk (blk_below F7.out hB2); replace F8 := Aside0.mk (blk_below F8.out hB2); replace HCp := Aside0.mk (Kd.C_below HCp.out hB2); replace HCq := Aside0.mk (Kd.C_below HCq.out hB2); have HW6 := Aside0.mk (below_step HWw.out (below_step HW5.out hB2)); clear hL hB hB2)
                generalize (w5.alloc (.cells #[.int .i64 u1.k, .int .i64 u1.c, .int .i64 u1.q, .int .i64 u1.h, .int .i64 u1.a, .int .i64 u1.t, .slice Q6 u1.p.length qm6, .slice Q7 u1.s.length qm7, .slice Q8 u1.r.length qm8] 30)) = w6 at *
                generalize w5.heap.size = gz at *
                have HGk := Aside0.mk (Go.Proofs.YtbplemhjhpfkgaaDoor.Ft.Door.below HG.out HW6.out)
                have HW := Aside0.mk (Below.refl w6.heap.size w6)
                refine start_ (n := 24) (S := fun w' => True) (ds := []) #[false, false, false, false, false, false, false, false, false, false, false, false, false, false, false, false, false, false, false, false, false, false, false, false] (by kernel_rfl) rfl rfl trivial (fun hHeld => ?_)
                refine with_tabW bk17false.tab17 bk17false.bits17 (fun HT_ HW_ => ?_)
                refine pure_ (i := 0) (N := some 118) (v := ?_) (a' := ?_) #[true, false, false, false, false, false, false, false, false, false, false, false, false, false, false, false, false, false, false, false, false, false, false, false] rfl rfl (any_of HT_.out (by kernel_rfl)) (fun _ _ _ h => h) (Or.inl ⟨by rfl, ?_⟩) ?_ ?_
                rotate_left
                · intro w'
                  go_simp
                  with_reducible rfl
                rotate_left
                · simp only [Act.put, List.setIfInBounds_toArray, List.set_cons_zero, List.set_cons_succ, i64_w, i32_w]
                  rfl
                refine inv_at [1, 2, 3, 4, 5, 6, 7, 8, 9, 10, 11, 12, 13, 14, 15, 16, 17, 18, 19, 20, 21, 22, 23] (fun a0_ b a w' => a = putSel a0_ b [(1, 119, .bool true), (2, 120, .bool true), (3, 121, .agg #[.int .i64 u1.k, .int .i64 u1.c, .int .i64 u1.q, .int .i64 u1.h, .int .i64 u1.a, .int .i64 u1.t, .slice Q6 u1.p.length qm6, .slice Q7 u1.s.length qm7, .slice Q8 u1.r.length qm8]), (4, 122, .agg #[.int .i64 u1.k, .int .i64 u1.c, .int .i64 u1.q, .int .i64 u1.h, .int .i64 u1.a, .int .i64 u1.t, .slice V6 u1.p.length vm6, .slice V7 u1.s.length vm7, .slice V8 u1.r.length vm8]), (5, 123, .bool true), (6, 124, .bool true), (7, 125, .bool true), (8, 126, .nilIface), (9, 127, .bool false), (10, 128, .bool false), (11, 129, .slice Ap pb.length cp), (12, 130, .slice Aq bq.length cq), (13, 131, .bool sxy), (14, 132, .agg #[.int .i64 u1.k, .int .i64 u1.c, .int .i64 u1.q, .int .i64 u1.h, .int .i64 u1.a, .int .i64 u1.t, .slice V6 u1.p.length vm6, .slice V7 u1.s.length vm7, .slice V8 u1.r.length vm8]), (15, 133, .agg #[.int .i64 u2.k, .int .i64 u2.c, .int .i64 u2.q, .int .i64 u2.h, .int .i64 u2.a, .int .i64 u2.t, .slice U6 u2.p.length um6, .slice U7 u2.s.length um7, .slice U8 u2.r.length um8]), (16, 134, .bool sxy), (17, 135, .bool true), (18, 136, .bool true), (19, 137, .bool true), (20, 138, .bool true), (21, 139, .bool true), (22, 140, .bool true), (23, 6, .bool true)] ∧ (Below w6.heap.size w6 w')) HT_.out HW_.out (by kernel_rfl) (by kernel_rfl) ?_ ?_ ?_
                · exact ⟨by simp only [putSel, Bool.false_eq_true, if_false], below_drew HW.out⟩
                · skip
                  clear HW
                  refine steps_cons ?_ ?_
                  · rintro b a w' ⟨ha, Q_HW⟩ hb_ hon hoff
                    refine ⟨_, rfl, fun K hK => ?_⟩
                    have e118 : a.tmps[118]? = some (.nilIface) := by rw [ha]; exact (putSel_off rfl).trans rfl
                    replace ha := Aside0.mk ha
                    have HW := Aside0.mk Q_HW
                    refine value_ (w1 := w') (v := .bool true) (by rfl) rfl ?_ ?_
                    · go_simp
                      (try simp only [i64_w])
                      try rfl
                    refine hK.out _ _ ⟨(by rw [ha.out]; exact putSel_upk 0 hb_ rfl rfl rfl), Q_HW⟩
                  refine steps_cons ?_ ?_
                  · rintro b a w' ⟨ha, Q_HW⟩ hb_ hon hoff
                    refine ⟨_, rfl, fun K hK => ?_⟩
                    have e119 : a.tmps[119]? = some (.bool true) := by rw [ha]; exact putSel_on (e := (1, 119, .bool true)) 0 rfl rfl (hon 1 (by kernel_rfl)) rfl
                    replace ha := Aside0.mk ha
                    have HW := Aside0.mk Q_HW
                    refine value_ (w1 := w') (v := .bool true) (by rfl) rfl ?_ ?_
                    · go_simp
                      (try simp only [i64_w])
                      try rfl
                    refine hK.out _ _ ⟨(by rw [ha.out]; exact putSel_upk 1 hb_ rfl rfl rfl), Q_HW⟩
                  refine steps_cons ?_ ?_
                  · rintro b a w' ⟨ha, Q_HW⟩ hb_ hon hoff
                    refine ⟨_, rfl, fun K hK => ?_⟩
                    have e16 : a.tmps[16]? = some (.pointer (some ⟨gz, 0, none⟩)) := by rw [ha]; exact (putSel_off rfl).trans rfl
                    have e120 : a.tmps[120]? = some (.bool true) := by rw [ha]; exact putSel_on (e := (2, 120, .bool true)) 1 rfl rfl (hon 2 (by kernel_rfl)) rfl
                    replace ha := Aside0.mk ha
                    have HW := Aside0.mk Q_HW
                    obtain ⟨q0, q1, q2, q3, q4, q5, q6, q7, q8⟩ := nine (blk_below FZ.out HW.out)
                    refine value_ (w1 := w') (v := .agg #[.int .i64 u1.k, .int .i64 u1.c, .int .i64 u1.q, .int .i64 u1.h, .int .i64 u1.a, .int .i64 u1.t, .slice Q6 u1.p.length qm6, .slice Q7 u1.s.length qm7, .slice Q8 u1.r.length qm8]) (wanted_on rfl rfl rfl (e120.trans (by first | rfl | (simp [*]; done)))) rfl ?_ ?_
                    · go_simp
                      (try simp only [i64_w])
                      try rfl
                    refine hK.out _ _ ⟨(by rw [ha.out]; exact putSel_upk 2 hb_ rfl rfl rfl), Q_HW⟩
                  refine steps_cons ?_ ?_
                  · rintro b a w' ⟨ha, Q_HW⟩ hb_ hon hoff
                    refine ⟨_, rfl, fun K hK => ?_⟩
                    have e7 : a.tmps[7]? = some (.pointer (some ⟨g7, 0, none⟩)) := by rw [ha]; exact (putSel_off rfl).trans rfl
                    have e120 : a.tmps[120]? = some (.bool true) := by rw [ha]; exact putSel_on (e := (2, 120, .bool true)) 1 rfl rfl (hon 2 (by kernel_rfl)) rfl
                    replace ha := Aside0.mk ha
                    have HW := Aside0.mk Q_HW
                    obtain ⟨q0, q1, q2, q3, q4, q5, q6, q7, q8⟩ := nine (blk_below F7.out HW.out)
                    refine value_ (w1 := w') (v := .agg #[.int .i64 u1.k, .int .i64 u1.c, .int .i64 u1.q, .int .i64 u1.h, .int .i64 u1.a, .int .i64 u1.t, .slice V6 u1.p.length vm6, .slice V7 u1.s.length vm7, .slice V8 u1.r.length vm8]) (wanted_on rfl rfl rfl (e120.trans (by first | rfl | (simp [*]; done)))) rfl ?_ ?_
                    · go_simp
                      (try simp only [i64_w])
                      try rfl
                    refine hK.out _ _ ⟨(by rw [ha.out]; exact putSel_upk 3 hb_ rfl rfl rfl), Q_HW⟩
                  refine steps_cons ?_ ?_
                  · rintro b a w' ⟨ha, Q_HW⟩ hb_ hon hoff
                    refine ⟨_, rfl, fun K hK => ?_⟩
                    have e121 : a.tmps[121]? = some (.agg #[.int .i64 u1.k, .int .i64 u1.c, .int .i64 u1.q, .int .i64 u1.h, .int .i64 u1.a, .int .i64 u1.t, .slice Q6 u1.p.length qm6, .slice Q7 u1.s.length qm7, .slice Q8 u1.r.length qm8]) := by rw [ha]; exact putSel_on (e := (3, 121, .agg #[.int .i64 u1.k, .int .i64 u1.c, .int .i64 u1.q, .int .i64 u1.h, .int .i64 u1.a, .int .i64 u1.t, .slice Q6 u1.p.length qm6, .slice Q7 u1.s.length qm7, .slice Q8 u1.r.length qm8])) 2 rfl rfl (hon 3 (by kernel_rfl)) rfl
                    have e122 : a.tmps[122]? = some (.agg #[.int .i64 u1.k, .int .i64 u1.c, .int .i64 u1.q, .int .i64 u1.h, .int .i64 u1.a, .int .i64 u1.t, .slice V6 u1.p.length vm6, .slice V7 u1.s.length vm7, .slice V8 u1.r.length vm8]) := by rw [ha]; exact putSel_on (e := (4, 122, .agg #[.int .i64 u1.k, .int .i64 u1.c, .int .i64 u1.q, .int .i64 u1.h, .int .i64 u1.a, .int .i64 u1.t, .slice V6 u1.p.length vm6, .slice V7 u1.s.length vm7, .slice V8 u1.r.length vm8])) 3 rfl rfl (hon 4 (by kernel_rfl)) rfl
                    have e120 : a.tmps[120]? = some (.bool true) := by rw [ha]; exact putSel_on (e := (2, 120, .bool true)) 1 rfl rfl (hon 2 (by kernel_rfl)) rfl
                    replace ha := Aside0.mk ha
                    have HW := Aside0.mk Q_HW
                    refine goes_ Tryd.func19 (by kernel_rfl) rfl #[.agg #[.int .i64 u1.k, .int .i64 u1.c, .int .i64 u1.q, .int .i64 u1.h, .int .i64 u1.a, .int .i64 u1.t, .slice Q6 u1.p.length qm6, .slice Q7 u1.s.length qm7, .slice Q8 u1.r.length qm8], .agg #[.int .i64 u1.k, .int .i64 u1.c, .int .i64 u1.q, .int .i64 u1.h, .int .i64 u1.a, .int .i64 u1.t, .slice V6 u1.p.length vm6, .slice V7 u1.s.length vm7, .slice V8 u1.r.length vm8]] (wanted_on rfl rfl rfl e120) rfl rfl (by simp only [List.map_toArray, List.map_cons, List.map_nil, Act.eval, Array.getD_eq_getD_getElem?, Option.getD_some, e121, e122]) ?_
                    refine (ops_calls u1 Q6 qm6 Q7 qm7 Q8 qm8 u1 V6 vm6 V7 vm7 V8 vm8 w' (Lies.below LZ.out HW.out) (Lies.below L1.out HW.out)).mono ?_
                    rintro e w2 ⟨he, hB⟩
                    rw [HSX.out] at he
                    subst he
                    refine ⟨_, rfl, ?_⟩
                    refine hK.out _ _ ⟨(by rw [ha.out]; exact putSel_upk 4 hb_ rfl rfl rfl), below_step HW.out hB⟩
                  refine steps_cons ?_ ?_
                  · rintro b a w' ⟨ha, Q_HW⟩ hb_ hon hoff
                    refine ⟨_, rfl, fun K hK => ?_⟩
                    have e120 : a.tmps[120]? = some (.bool true) := by rw [ha]; exact putSel_on (e := (2, 120, .bool true)) 1 rfl rfl (hon 2 (by kernel_rfl)) rfl
                    have e123 : a.tmps[123]? = some (.bool true) := by rw [ha]; exact putSel_on (e := (5, 123, .bool true)) 4 rfl rfl (hon 5 (by kernel_rfl)) rfl
                    replace ha := Aside0.mk ha
                    have HW := Aside0.mk Q_HW
                    refine value_ (w1 := w') (v := .bool true) (by rfl) rfl ?_ ?_
                    · go_simp
                      (try simp only [i64_w])
                      try rfl
                    refine hK.out _ _ ⟨(by rw [ha.out]; exact putSel_upk 5 hb_ rfl rfl rfl), Q_HW⟩
                  refine steps_cons ?_ ?_
                  · rintro b a w' ⟨ha, Q_HW⟩ hb_ hon hoff
                    refine ⟨_, rfl, fun K hK => ?_⟩
                    have e124 : a.tmps[124]? = some (.bool true) := by rw [ha]; exact putSel_on (e := (6, 124, .bool true)) 5 rfl rfl (hon 6 (by kernel_rfl)) rfl
                    replace ha := Aside0.mk ha
                    have HW := Aside0.mk Q_HW
                    refine value_ (w1 := w') (v := .bool true) (by rfl) rfl ?_ ?_
                    · go_simp
                      (try simp only [i64_w])
                      try rfl
                    refine hK.out _ _ ⟨(by rw [ha.out]; exact putSel_upk 6 hb_ rfl rfl rfl), Q_HW⟩
                  refine steps_cons ?_ ?_
                  · rintro b a w' ⟨ha, Q_HW⟩ hb_ hon hoff
                    refine ⟨_, rfl, fun K hK => ?_⟩
                    have e15 : a.tmps[15]? = some (.nilIface) := by rw [ha]; exact (putSel_off rfl).trans rfl
                    have e125 : a.tmps[125]? = some (.bool true) := by rw [ha]; exact putSel_on (e := (7, 125, .bool true)) 6 rfl rfl (hon 7 (by kernel_rfl)) rfl
                    replace ha := Aside0.mk ha
                    have HW := Aside0.mk Q_HW
                    refine value_ (w1 := w') (v := .nilIface) (wanted_on rfl rfl rfl (e125.trans (by first | rfl | (simp [*]; done)))) rfl ?_ ?_
                    · go_simp
                      (try simp only [i64_w])
                      try rfl
                    refine hK.out _ _ ⟨(by rw [ha.out]; exact putSel_upk 7 hb_ rfl rfl rfl), Q_HW⟩
                  refine steps_cons ?_ ?_
                  · rintro b a w' ⟨ha, Q_HW⟩ hb_ hon hoff
                    refine ⟨_, rfl, fun K hK => ?_⟩
                    have e126 : a.tmps[126]? = some (.nilIface) := by rw [ha]; exact putSel_on (e := (8, 126, .nilIface)) 7 rfl rfl (hon 8 (by kernel_rfl)) rfl
                    have e125 : a.tmps[125]? = some (.bool true) := by rw [ha]; exact putSel_on (e := (7, 125, .bool true)) 6 rfl rfl (hon 7 (by kernel_rfl)) rfl
                    replace ha := Aside0.mk ha
                    have HW := Aside0.mk Q_HW
                    refine value_ (w1 := w') (v := .bool false) (wanted_on rfl rfl rfl (e125.trans (by first | rfl | (simp [*]; done)))) rfl ?_ ?_
                    · go_simp
                      (try simp only [i64_w])
                      try rfl
                    refine hK.out _ _ ⟨(by rw [ha.out]; exact putSel_upk 8 hb_ rfl rfl rfl), Q_HW⟩
                  refine steps_cons ?_ ?_
                  · rintro b a w' ⟨ha, Q_HW⟩ hb_ hon hoff
                    refine ⟨_, rfl, fun K hK => ?_⟩
                    have e127 : a.tmps[127]? = some (.bool false) := by rw [ha]; exact putSel_on (e := (9, 127, .bool false)) 8 rfl rfl (hon 9 (by kernel_rfl)) rfl
                    have e125 : a.tmps[125]? = some (.bool true) := by rw [ha]; exact putSel_on (e := (7, 125, .bool true)) 6 rfl rfl (hon 7 (by kernel_rfl)) rfl
                    replace ha := Aside0.mk ha
                    have HW := Aside0.mk Q_HW
                    refine value_ (w1 := w') (v := .bool false) (wanted_on rfl rfl rfl (e125.trans (by first | rfl | (simp [*]; done)))) rfl ?_ ?_
                    · go_simp
                      (try simp only [i64_w])
                      try rfl
                    refine hK.out _ _ ⟨(by rw [ha.out]; exact putSel_upk 9 hb_ rfl rfl rfl), Q_HW⟩
                  refine steps_cons ?_ ?_
                  · rintro b a w' ⟨ha, Q_HW⟩ hb_ hon hoff
                    refine ⟨_, rfl, fun K hK => ?_⟩
                    have e12 : a.tmps[12]? = some (.slice Ap pb.length cp) := by rw [ha]; exact (putSel_off rfl).trans rfl
                    have e128 : a.tmps[128]? = some (.bool false) := by rw [ha]; exact putSel_on (e := (10, 128, .bool false)) 9 rfl rfl (hon 10 (by kernel_rfl)) rfl
                    replace ha := Aside0.mk ha
                    have HW := Aside0.mk Q_HW
                    refine value_ (w1 := w') (v := .slice Ap pb.length cp) (wanted_on rfl rfl rfl (e128.trans (by first | rfl | (simp [*]; done)))) rfl ?_ ?_
                    · go_simp
                      (try simp only [i64_w])
                      try rfl
                    refine hK.out _ _ ⟨(by rw [ha.out]; exact putSel_upk 10 hb_ rfl rfl rfl), Q_HW⟩
                  refine steps_cons ?_ ?_
                  · rintro b a w' ⟨ha, Q_HW⟩ hb_ hon hoff
                    refine ⟨_, rfl, fun K hK => ?_⟩
                    have e14 : a.tmps[14]? = some (.slice Aq bq.length cq) := by rw [ha]; exact (putSel_off rfl).trans rfl
                    have e128 : a.tmps[128]? = some (.bool false) := by rw [ha]; exact putSel_on (e := (10, 128, .bool false)) 9 rfl rfl (hon 10 (by kernel_rfl)) rfl
                    replace ha := Aside0.mk ha
                    have HW := Aside0.mk Q_HW
                    refine value_ (w1 := w') (v := .slice Aq bq.length cq) (wanted_on rfl rfl rfl (e128.trans (by first | rfl | (simp [*]; done)))) rfl ?_ ?_
                    · go_simp
                      (try simp only [i64_w])
                      try rfl
                    refine hK.out _ _ ⟨(by rw [ha.out]; exact putSel_upk 11 hb_ rfl rfl rfl), Q_HW⟩
                  refine steps_cons ?_ ?_
                  · rintro b a w' ⟨ha, Q_HW⟩ hb_ hon hoff
                    refine ⟨_, rfl, fun K hK => ?_⟩
                    have e129 : a.tmps[129]? = some (.slice Ap pb.length cp) := by rw [ha]; exact putSel_on (e := (11, 129, .slice Ap pb.length cp)) 10 rfl rfl (hon 11 (by kernel_rfl)) rfl
                    have e130 : a.tmps[130]? = some (.slice Aq bq.length cq) := by rw [ha]; exact putSel_on (e := (12, 130, .slice Aq bq.length cq)) 11 rfl rfl (hon 12 (by kernel_rfl)) rfl
                    have e128 : a.tmps[128]? = some (.bool false) := by rw [ha]; exact putSel_on (e := (10, 128, .bool false)) 9 rfl rfl (hon 10 (by kernel_rfl)) rfl
                    replace ha := Aside0.mk ha
                    have HW := Aside0.mk Q_HW
                    refine goes_ Tryd.func22 (by kernel_rfl) rfl #[.slice Ap pb.length cp, .slice Aq bq.length cq] (wanted_on rfl rfl rfl e128) rfl rfl (by simp only [List.map_toArray, List.map_cons, List.map_nil, Act.eval, Array.getD_eq_getD_getElem?, Option.getD_some, e129, e130]) ?_
                    refine (sBy_calls Ap cp pb Aq cq bq w' (Kd.C_below HCp.out HW.out) (Kd.C_below HCq.out HW.out)).mono ?_
                    rintro e w2 ⟨he, hD⟩
                    rw [HSC.out] at he
                    subst he
                    obtain ⟨mD, rfl⟩ := hD
                    refine ⟨_, rfl, ?_⟩
                    refine hK.out _ _ ⟨(by rw [ha.out]; exact putSel_upk 12 hb_ rfl rfl rfl), pw_below_drewN HW.out mD⟩
                  refine steps_cons ?_ ?_
                  · rintro b a w' ⟨ha, Q_HW⟩ hb_ hon hoff
                    refine ⟨_, rfl, fun K hK => ?_⟩
                    have e7 : a.tmps[7]? = some (.pointer (some ⟨g7, 0, none⟩)) := by rw [ha]; exact (putSel_off rfl).trans rfl
                    have e128 : a.tmps[128]? = some (.bool false) := by rw [ha]; exact putSel_on (e := (10, 128, .bool false)) 9 rfl rfl (hon 10 (by kernel_rfl)) rfl
                    replace ha := Aside0.mk ha
                    have HW := Aside0.mk Q_HW
                    obtain ⟨q0, q1, q2, q3, q4, q5, q6, q7, q8⟩ := nine (blk_below F7.out HW.out)
                    refine value_ (w1 := w') (v := .agg #[.int .i64 u1.k, .int .i64 u1.c, .int .i64 u1.q, .int .i64 u1.h, .int .i64 u1.a, .int .i64 u1.t, .slice V6 u1.p.length vm6, .slice V7 u1.s.length vm7, .slice V8 u1.r.length vm8]) (wanted_on rfl rfl rfl (e128.trans (by first | rfl | (simp [*]; done)))) rfl ?_ ?_
                    · go_simp
                      (try simp only [i64_w])
                      try rfl
                    refine hK.out _ _ ⟨(by rw [ha.out]; exact putSel_upk 13 hb_ rfl rfl rfl), Q_HW⟩
                  refine steps_cons ?_ ?_
                  · rintro b a w' ⟨ha, Q_HW⟩ hb_ hon hoff
                    refine ⟨_, rfl, fun K hK => ?_⟩
                    have e8 : a.tmps[8]? = some (.pointer (some ⟨g8, 0, none⟩)) := by rw [ha]; exact (putSel_off rfl).trans rfl
                    have e128 : a.tmps[128]? = some (.bool false) := by rw [ha]; exact putSel_on (e := (10, 128, .bool false)) 9 rfl rfl (hon 10 (by kernel_rfl)) rfl
                    replace ha := Aside0.mk ha
                    have HW := Aside0.mk Q_HW
                    obtain ⟨q0, q1, q2, q3, q4, q5, q6, q7, q8⟩ := nine (blk_below F8.out HW.out)
                    refine value_ (w1 := w') (v := .agg #[.int .i64 u2.k, .int .i64 u2.c, .int .i64 u2.q, .int .i64 u2.h, .int .i64 u2.a, .int .i64 u2.t, .slice U6 u2.p.length um6, .slice U7 u2.s.length um7, .slice U8 u2.r.length um8]) (wanted_on rfl rfl rfl (e128.trans (by first | rfl | (simp [*]; done)))) rfl ?_ ?_
                    · go_simp
                      (try simp only [i64_w])
                      try rfl
                    refine hK.out _ _ ⟨(by rw [ha.out]; exact putSel_upk 14 hb_ rfl rfl rfl), Q_HW⟩
                  refine steps_cons ?_ ?_
                  · rintro b a w' ⟨ha, Q_HW⟩ hb_ hon hoff
                    refine ⟨_, rfl, fun K hK => ?_⟩
                    have e132 : a.tmps[132]? = some (.agg #[.int .i64 u1.k, .int .i64 u1.c, .int .i64 u1.q, .int .i64 u1.h, .int .i64 u1.a, .int .i64 u1.t, .slice V6 u1.p.length vm6, .slice V7 u1.s.length vm7, .slice V8 u1.r.length vm8]) := by rw [ha]; exact putSel_on (e := (14, 132, .agg #[.int .i64 u1.k, .int .i64 u1.c, .int .i64 u1.q, .int .i64 u1.h, .int .i64 u1.a, .int .i64 u1.t, .slice V6 u1.p.length vm6, .slice V7 u1.s.length vm7, .slice V8 u1.r.length vm8])) 13 rfl rfl (hon 14 (by kernel_rfl)) rfl
                    have e133 : a.tmps[133]? = some (.agg #[.int .i64 u2.k, .int .i64 u2.c, .int .i64 u2.q, .int .i64 u2.h, .int .i64 u2.a, .int .i64 u2.t, .slice U6 u2.p.length um6, .slice U7 u2.s.length um7, .slice U8 u2.r.length um8]) := by rw [ha]; exact putSel_on (e := (15, 133, .agg #[.int .i64 u2.k, .int .i64 u2.c, .int .i64 u2.q, .int .i64 u2.h, .int .i64 u2.a, .int .i64 u2.t, .slice U6 u2.p.length um6, .slice U7 u2.s.length um7, .slice U8 u2.r.length um8])) 14 rfl rfl (hon 15 (by kernel_rfl)) rfl
                    have e128 : a.tmps[128]? = some (.bool false) := by rw [ha]; exact putSel_on (e := (10, 128, .bool false)) 9 rfl rfl (hon 10 (by kernel_rfl)) rfl
                    replace ha := Aside0.mk ha
                    have HW := Aside0.mk Q_HW
                    refine goes_ Tryd.func19 (by kernel_rfl) rfl #[.agg #[.int .i64 u1.k, .int .i64 u1.c, .int .i64 u1.q, .int .i64 u1.h, .int .i64 u1.a, .int .i64 u1.t, .slice V6 u1.p.length vm6, .slice V7 u1.s.length vm7, .slice V8 u1.r.length vm8], .agg #[.int .i64 u2.k, .int .i64 u2.c, .int .i64 u2.q, .int .i64 u2.h, .int .i64 u2.a, .int .i64 u2.t, .slice U6 u2.p.length um6, .slice U7 u2.s.length um7, .slice U8 u2.r.length um8]] (wanted_on rfl rfl rfl e128) rfl rfl (by simp only [List.map_toArray, List.map_cons, List.map_nil, Act.eval, Array.getD_eq_getD_getElem?, Option.getD_some, e132, e133]) ?_
                    refine (ops_calls u1 V6 vm6 V7 vm7 V8 vm8 u2 U6 um6 U7 um7 U8 um8 w' (Lies.below L1.out HW.out) (Lies.below L2.out HW.out)).mono ?_
                    rintro e w2 ⟨he, hB⟩
                    rw [HSXY.out] at he
                    subst he
                    refine ⟨_, rfl, ?_⟩
                    refine hK.out _ _ ⟨(by rw [ha.out]; exact putSel_upk 15 hb_ rfl rfl rfl), below_step HW.out hB⟩
                  refine steps_cons ?_ ?_
                  · rintro b a w' ⟨ha, Q_HW⟩ hb_ hon hoff
                    refine ⟨_, rfl, fun K hK => ?_⟩
                    have e131 : a.tmps[131]? = some (.bool sxy) := by rw [ha]; exact putSel_on (e := (13, 131, .bool sxy)) 12 rfl rfl (hon 13 (by kernel_rfl)) rfl
                    have e134 : a.tmps[134]? = some (.bool sxy) := by rw [ha]; exact putSel_on (e := (16, 134, .bool sxy)) 15 rfl rfl (hon 16 (by kernel_rfl)) rfl
                    have e128 : a.tmps[128]? = some (.bool false) := by rw [ha]; exact putSel_on (e := (10, 128, .bool false)) 9 rfl rfl (hon 10 (by kernel_rfl)) rfl
                    replace ha := Aside0.mk ha
                    have HW := Aside0.mk Q_HW
                    refine value_ (w1 := w') (v := .bool true) (wanted_on rfl rfl rfl (e128.trans (by first | rfl | (simp [*]; done)))) rfl ?_ ?_
                    · go_simp
                      (try simp only [i64_w])
                      try rfl
                    refine hK.out _ _ ⟨(by rw [ha.out]; exact putSel_upk 16 hb_ rfl rfl rfl), Q_HW⟩
                  refine steps_cons ?_ ?_
                  · rintro b a w' ⟨ha, Q_HW⟩ hb_ hon hoff
                    refine ⟨_, rfl, fun K hK => ?_⟩
                    have e128 : a.tmps[128]? = some (.bool false) := by rw [ha]; exact putSel_on (e := (10, 128, .bool false)) 9 rfl rfl (hon 10 (by kernel_rfl)) rfl
                    have e135 : a.tmps[135]? = some (.bool true) := by rw [ha]; exact putSel_on (e := (17, 135, .bool true)) 16 rfl rfl (hon 17 (by kernel_rfl)) rfl
                    have e125 : a.tmps[125]? = some (.bool true) := by rw [ha]; exact putSel_on (e := (7, 125, .bool true)) 6 rfl rfl (hon 7 (by kernel_rfl)) rfl
                    replace ha := Aside0.mk ha
                    have HW := Aside0.mk Q_HW
                    refine value_ (w1 := w') (v := .bool true) (wanted_on rfl rfl rfl (e125.trans (by first | rfl | (simp [*]; done)))) rfl ?_ ?_
                    · go_simp
                      (try simp only [i64_w])
                      try rfl
                    refine hK.out _ _ ⟨(by rw [ha.out]; exact putSel_upk 17 hb_ rfl rfl rfl), Q_HW⟩
                  refine steps_cons ?_ ?_
                  · rintro b a w' ⟨ha, Q_HW⟩ hb_ hon hoff
                    refine ⟨_, rfl, fun K hK => ?_⟩
                    have e125 : a.tmps[125]? = some (.bool true) := by rw [ha]; exact putSel_on (e := (7, 125, .bool true)) 6 rfl rfl (hon 7 (by kernel_rfl)) rfl
                    have e136 : a.tmps[136]? = some (.bool true) := by rw [ha]; exact putSel_on (e := (18, 136, .bool true)) 17 rfl rfl (hon 18 (by kernel_rfl)) rfl
                    replace ha := Aside0.mk ha
                    have HW := Aside0.mk Q_HW
                    refine value_ (w1 := w') (v := .bool true) (by rfl) rfl ?_ ?_
                    · go_simp
                      (try simp only [i64_w])
                      try rfl
                    refine hK.out _ _ ⟨(by rw [ha.out]; exact putSel_upk 18 hb_ rfl rfl rfl), Q_HW⟩
                  refine steps_cons ?_ ?_
                  · rintro b a w' ⟨ha, Q_HW⟩ hb_ hon hoff
                    refine ⟨_, rfl, fun K hK => ?_⟩
                    have e137 : a.tmps[137]? = some (.bool true) := by rw [ha]; exact putSel_on (e := (19, 137, .bool true)) 18 rfl rfl (hon 19 (by kernel_rfl)) rfl
                    replace ha := Aside0.mk ha
                    have HW := Aside0.mk Q_HW
                    refine value_ (w1 := w') (v := .bool true) (by rfl) rfl ?_ ?_
                    · go_simp
                      (try simp only [i64_w])
                      try rfl
                    refine hK.out _ _ ⟨(by rw [ha.out]; exact putSel_upk 19 hb_ rfl rfl rfl), Q_HW⟩
                  refine steps_cons ?_ ?_
                  · rintro b a w' ⟨ha, Q_HW⟩ hb_ hon hoff
                    refine ⟨_, rfl, fun K hK => ?_⟩
                    have e138 : a.tmps[138]? = some (.bool true) := by rw [ha]; exact putSel_on (e := (20, 138, .bool true)) 19 rfl rfl (hon 20 (by kernel_rfl)) rfl
                    replace ha := Aside0.mk ha
                    have HW := Aside0.mk Q_HW
                    refine goes_ Tryd.func3 (by kernel_rfl) rfl #[] (wanted_on rfl rfl rfl e138) rfl rfl (by simp only [List.map_toArray, List.map_cons, List.map_nil, Act.eval, Array.getD_eq_getD_getElem?, Option.getD_some]) ?_
                    refine (Cr.codeRuns_calls w' (Go.Proofs.YtbplemhjhpfkgaaDoor.Ft.Door.below HGk.out HW.out)).mono ?_
                    rintro e w2 ⟨he, hB⟩
                    subst he
                    refine ⟨_, rfl, ?_⟩
                    refine hK.out _ _ ⟨(by rw [ha.out]; exact putSel_upk 20 hb_ rfl rfl rfl), below_step HW.out hB⟩
                  refine steps_cons ?_ ?_
                  · rintro b a w' ⟨ha, Q_HW⟩ hb_ hon hoff
                    refine ⟨_, rfl, fun K hK => ?_⟩
                    have e138 : a.tmps[138]? = some (.bool true) := by rw [ha]; exact putSel_on (e := (20, 138, .bool true)) 19 rfl rfl (hon 20 (by kernel_rfl)) rfl
                    have e139 : a.tmps[139]? = some (.bool true) := by rw [ha]; exact putSel_on (e := (21, 139, .bool true)) 20 rfl rfl (hon 21 (by kernel_rfl)) rfl
                    replace ha := Aside0.mk ha
                    have HW := Aside0.mk Q_HW
                    refine value_ (w1 := w') (v := .bool true) (by rfl) rfl ?_ ?_
                    · go_simp
                      (try simp only [i64_w])
                      try rfl
                    refine hK.out _ _ ⟨(by rw [ha.out]; exact putSel_upk 21 hb_ rfl rfl rfl), Q_HW⟩
                  refine steps_cons ?_ ?_
                  · rintro b a w' ⟨ha, Q_HW⟩ hb_ hon hoff
                    refine ⟨_, rfl, fun K hK => ?_⟩
                    have e140 : a.tmps[140]? = some (.bool true) := by rw [ha]; exact putSel_on (e := (22, 140, .bool true)) 21 rfl rfl (hon 22 (by kernel_rfl)) rfl
                    replace ha := Aside0.mk ha
                    have HW := Aside0.mk Q_HW
                    refine value_ (w1 := w') (v := .bool true) (by rfl) rfl ?_ ?_
                    · go_simp
                      (try simp only [i64_w])
                      try rfl
                    refine hK.out _ _ ⟨(by rw [ha.out]; exact putSel_upk 22 hb_ rfl rfl rfl), Q_HW⟩
                  exact steps_nil
                · rintro b a w' hall ⟨ha, Q_HW⟩
                  clear HW
                  have hb1_ := hall 1 (by kernel_rfl)
                  have hb2_ := hall 2 (by kernel_rfl)
                  have hb3_ := hall 3 (by kernel_rfl)
                  have hb4_ := hall 4 (by kernel_rfl)
                  have hb5_ := hall 5 (by kernel_rfl)
                  have hb6_ := hall 6 (by kernel_rfl)
                  have hb7_ := hall 7 (by kernel_rfl)
                  have hb8_ := hall 8 (by kernel_rfl)
                  have hb9_ := hall 9 (by kernel_rfl)
                  have hb10_ := hall 10 (by kernel_rfl)
                  have hb11_ := hall 11 (by kernel_rfl)
                  have hb12_ := hall 12 (by kernel_rfl)
                  have hb13_ := hall 13 (by kernel_rfl)
                  have hb14_ := hall 14 (by kernel_rfl)
                  have hb15_ := hall 15 (by kernel_rfl)
                  have hb16_ := hall 16 (by kernel_rfl)
                  have hb17_ := hall 17 (by kernel_rfl)
                  have hb18_ := hall 18 (by kernel_rfl)
                  have hb19_ := hall 19 (by kernel_rfl)
                  have hb20_ := hall 20 (by kernel_rfl)
                  have hb21_ := hall 21 (by kernel_rfl)
                  have hb22_ := hall 22 (by kernel_rfl)
                  have hb23_ := hall 23 (by kernel_rfl)
                  subst ha
                  simp only [putSel, hb1_, hb2_, hb3_, hb4_, hb5_, hb6_, hb7_, hb8_, hb9_, hb10_, hb11_, hb12_, hb13_, hb14_, hb15_, hb16_, hb17_, hb18_, hb19_, hb20_, hb21_, hb22_, hb23_, if_true, Act.put, List.setIfInBounds_toArray, List.set_cons_zero, List.set_cons_succ]
                  have HW := Aside0.mk Q_HW
                  clear Q_HW
                  clear hall hb1_ hb2_ hb3_ hb4_ hb5_ hb6_ hb7_ hb8_ hb9_ hb10_ hb11_ hb12_ hb13_ hb14_ hb15_ hb16_ hb17_ hb18_ hb19_ hb20_ hb21_ hb22_ hb23_
                  go_wp2
                  go_ret
                  exact ⟨rfl, below_step HW6.out HW.out⟩
              · clear HINJ HFV
                go_upto_region 17 with (go_at_call 31; refine (HDec.out Ap cp _ HCp.out).mono ?_; rintro e w5 ⟨Q6, qm6, Q7, qm7, Q8, qm8, rfl, hL, hB⟩; have hB2 := below_alloc hB (.cells #[.int .i64 u1.k, .int .i64 u1.c, .int .i64 u1.q, .int .i64 u1.h, .int .i64 u1.a, .int .i64 u1.t, .slice Q6 u1.p.length qm6, .slice Q7 u1.s.length qm7, .slice Q8 u1.r.length qm8] 30); have LZ := Aside0.mk (Lies.below hL (below_alloc (Below.refl w5.heap.size w5) (.cells #[.int .i64 u1.k, .int .i64 u1.c, .int .i64 u1.q, .int .i64 u1.h, .int .i64 u1.a, .int .i64 u1.t, .slice Q6 u1.p.length qm6, .slice Q7 u1.s.length qm7, .slice Q8 u1.r.length qm8] 30))); have FZ := Aside0.mk (blk_new w5 (.cells #[.int .i64 u1.k, .int .i64 u1.c, .int .i64 u1.q, .int .i64 u1.h, .int .i64 u1.a, .int .i64 u1.t, .slice Q6 u1.p.length qm6, .slice Q7 u1.s.length qm7, .slice Q8 u1.r.length qm8] 30)); replace L1 := Aside0.mk (Lies.below L1.out hB2); replace L2 := Aside0.mk (Lies.below L2.out hB2); replace F7 := Aside0.mk (blk_below F7.out hB2); replace F8 := Aside0.mk (blk_below F8.out hB2); replace HCp := Aside0.mk (Kd.C_below HCp.out hB2); replace HCq := Aside0.mk (Kd.C_below HCq.out hB2); have HW6 := Aside0.mk (below_step HWw.out (below_step HW5.out hB2)); clear hL hB hB2)
                generalize (w5.alloc (.cells #[.int .i64 u1.k, .int .i64 u1.c, .int .i64 u1.q, .int .i64 u1.h, .int .i64 u1.a, .int .i64 u1.t, .slice Q6 u1.p.length qm6, .slice Q7 u1.s.length qm7, .slice Q8 u1.r.length qm8] 30)) = w6 at *
                generalize w5.heap.size = gz at *
                have HGk := Aside0.mk (Go.Proofs.YtbplemhjhpfkgaaDoor.Ft.Door.below HG.out HW6.out)
                have HW := Aside0.mk (Below.refl w6.heap.size w6)
                refine start_ (n := 24) (S := fun w' => True) (ds := []) #[false, false, false, false, false, false, false, false, false, false, false, false, false, false, false, false, false, false, false, false, false, false, false, false] (by kernel_rfl) rfl rfl trivial (fun hHeld => ?_)
                refine with_tabW bk17true.tab17 bk17true.bits17 (fun HT_ HW_ => ?_)
                refine pure_ (i := 0) (N := some 118) (v := ?_) (a' := ?_) #[true, false, false, false, false, false, false, false, false, false, false, false, false, false, false, false, false, false, false, false, false, false, false, false] rfl rfl (any_of HT_.out (by kernel_rfl)) (fun _ _ _ h => h) (Or.inl ⟨by rfl, ?_⟩) ?_ ?_
                rotate_left
                · intro w'
                  go_simp
                  with_reducible rfl
                rotate_left
                · simp only [Act.put, List.setIfInBounds_toArray, List.set_cons_zero, List.set_cons_succ, i64_w, i32_w]
                  rfl
                refine inv_at [1, 2, 3, 4, 5, 6, 7, 8, 9, 10, 11, 12, 13, 14, 15, 16, 17, 18, 19, 20, 21, 22, 23] (fun a0_ b a w' => a = putSel a0_ b [(1, 119, .bool true), (2, 120, .bool true), (3, 121, .agg #[.int .i64 u1.k, .int .i64 u1.c, .int .i64 u1.q, .int .i64 u1.h, .int .i64 u1.a, .int .i64 u1.t, .slice Q6 u1.p.length qm6, .slice Q7 u1.s.length qm7, .slice Q8 u1.r.length qm8]), (4, 122, .agg #[.int .i64 u1.k, .int .i64 u1.c, .int .i64 u1.q, .int .i64 u1.h, .int .i64 u1.a, .int .i64 u1.t, .slice V6 u1.p.length vm6, .slice V7 u1.s.length vm7, .slice V8 u1.r.length vm8]), (5, 123, .bool true), (6, 124, .bool true), (7, 125, .bool true), (8, 126, .iface tf zf), (9, 127, .bool true), (10, 128, .bool true), (11, 129, undef), (12, 130, undef), (13, 131, undef), (14, 132, undef), (15, 133, undef), (16, 134, undef), (17, 135, undef), (18, 136, .bool true), (19, 137, .bool true), (20, 138, .bool true), (21, 139, .bool true), (22, 140, .bool true), (23, 6, .bool true)] ∧ (Below w6.heap.size w6 w')) HT_.out HW_.out (by kernel_rfl) (by kernel_rfl) ?_ ?_ ?_
                · exact ⟨by simp only [putSel, Bool.false_eq_true, if_false], below_drew HW.out⟩
                · skip
                  clear HW
                  refine steps_cons ?_ ?_
                  · rintro b a w' ⟨ha, Q_HW⟩ hb_ hon hoff
                    refine ⟨_, rfl, fun K hK => ?_⟩
                    have e118 : a.tmps[118]? = some (.nilIface) := by rw [ha]; exact (putSel_off rfl).trans rfl
                    replace ha := Aside0.mk ha
                    have HW := Aside0.mk Q_HW
                    refine value_ (w1 := w') (v := .bool true) (by rfl) rfl ?_ ?_
                    · go_simp
                      (try simp only [i64_w])
                      try rfl
                    refine hK.out _ _ ⟨(by rw [ha.out]; exact putSel_upk 0 hb_ rfl rfl rfl), Q_HW⟩
                  refine steps_cons ?_ ?_
                  · rintro b a w' ⟨ha, Q_HW⟩ hb_ hon hoff
                    refine ⟨_, rfl, fun K hK => ?_⟩
                    have e119 : a.tmps[119]? = some (.bool true) := by rw [ha]; exact putSel_on (e := (1, 119, .bool true)) 0 rfl rfl (hon 1 (by kernel_rfl)) rfl
                    replace ha := Aside0.mk ha
                    have HW := Aside0.mk Q_HW
                    refine value_ (w1 := w') (v := .bool true) (by rfl) rfl ?_ ?_
                    · go_simp
                      (try simp only [i64_w])
                      try rfl
                    refine hK.out _ _ ⟨(by rw [ha.out]; exact putSel_upk 1 hb_ rfl rfl rfl), Q_HW⟩
                  refine steps_cons ?_ ?_
                  · rintro b a w' ⟨ha, Q_HW⟩ hb_ hon hoff
                    refine ⟨_, rfl, fun K hK => ?_⟩
                    have e16 : a.tmps[16]? = some (.pointer (some ⟨gz, 0, none⟩)) := by rw [ha]; exact (putSel_off rfl).trans rfl
                    have e120 : a.tmps[120]? = some (.bool true) := by rw [ha]; exact putSel_on (e := (2, 120, .bool true)) 1 rfl rfl (hon 2 (by kernel_rfl)) rfl
                    replace ha := Aside0.mk ha
                    have HW := Aside0.mk Q_HW
                    obtain ⟨q0, q1, q2, q3, q4, q5, q6, q7, q8⟩ := nine (blk_below FZ.out HW.out)
                    refine value_ (w1 := w') (v := .agg #[.int .i64 u1.k, .int .i64 u1.c, .int .i64 u1.q, .int .i64 u1.h, .int .i64 u1.a, .int .i64 u1.t, .slice Q6 u1.p.length qm6, .slice Q7 u1.s.length qm7, .slice Q8 u1.r.length qm8]) (wanted_on rfl rfl rfl (e120.trans (by first | rfl | (simp [*]; done)))) rfl ?_ ?_
                    · go_simp
                      (try simp only [i64_w])
                      try rfl
                    refine hK.out _ _ ⟨(by rw [ha.out]; exact putSel_upk 2 hb_ rfl rfl rfl), Q_HW⟩
                  refine steps_cons ?_ ?_
                  · rintro b a w' ⟨ha, Q_HW⟩ hb_ hon hoff
                    refine ⟨_, rfl, fun K hK => ?_⟩
                    have e7 : a.tmps[7]? = some (.pointer (some ⟨g7, 0, none⟩)) := by rw [ha]; exact (putSel_off rfl).trans rfl
                    have e120 : a.tmps[120]? = some (.bool true) := by rw [ha]; exact putSel_on (e := (2, 120, .bool true)) 1 rfl rfl (hon 2 (by kernel_rfl)) rfl
                    replace ha := Aside0.mk ha
                    have HW := Aside0.mk Q_HW
                    obtain ⟨q0, q1, q2, q3, q4, q5, q6, q7, q8⟩ := nine (blk_below F7.out HW.out)
                    refine value_ (w1 := w') (v := .agg #[.int .i64 u1.k, .int .i64 u1.c, .int .i64 u1.q, .int .i64 u1.h, .int .i64 u1.a, .int .i64 u1.t, .slice V6 u1.p.length vm6, .slice V7 u1.s.length vm7, .slice V8 u1.r.length vm8]) (wanted_on rfl rfl rfl (e120.trans (by first | rfl | (simp [*]; done)))) rfl ?_ ?_
                    · go_simp
                      (try simp only [i64_w])
                      try rfl
                    refine hK.out _ _ ⟨(by rw [ha.out]; exact putSel_upk 3 hb_ rfl rfl rfl), Q_HW⟩
                  refine steps_cons ?_ ?_
                  · rintro b a w' ⟨ha, Q_HW⟩ hb_ hon hoff
                    refine ⟨_, rfl, fun K hK => ?_⟩
                    have e121 : a.tmps[121]? = some (.agg #[.int .i64 u1.k, .int .i64 u1.c, .int .i64 u1.q, .int .i64 u1.h, .int .i64 u1.a, .int .i64 u1.t, .slice Q6 u1.p.length qm6, .slice Q7 u1.s.length qm7, .slice Q8 u1.r.length qm8]) := by rw [ha]; exact putSel_on (e := (3, 121, .agg #[.int .i64 u1.k, .int .i64 u1.c, .int .i64 u1.q, .int .i64 u1.h, .int .i64 u1.a, .int .i64 u1.t, .slice Q6 u1.p.length qm6, .slice Q7 u1.s.length qm7, .slice Q8 u1.r.length qm8])) 2 rfl rfl (hon 3 (by kernel_rfl)) rfl
                    have e122 : a.tmps[122]? = some (.agg #[.int .i64 u1.k, .int .i64 u1.c, .int .i64 u1.q, .int .i64 u1.h, .int .i64 u1.a, .int .i64 u1.t, .slice V6 u1.p.length vm6, .slice V7 u1.s.length vm7, .slice V8 u1.r.length vm8]) := by rw [ha]; exact putSel_on (e := (4, 122, .agg #[.int .i64 u1.k, .int .i64 u1.c, .int .i64 u1.q, .int .i64 u1.h, .int .i64 u1.a, .int .i64 u1.t, .slice V6 u1.p.length vm6, .slice V7 u1.s.length vm7, .slice V8 u1.r.length vm8])) 3 rfl rfl (hon 4 (by kernel_rfl)) rfl
                    have e120 : a.tmps[120]? = some (.bool true) := by rw [ha]; exact putSel_on (e := (2, 120, .bool true)) 1 rfl rfl (hon 2 (by kernel_rfl)) rfl
                    replace ha := Aside0.mk ha
                    have HW := Aside0.mk Q_HW
                    refine goes_ Tryd.func19 (by kernel_rfl) rfl #[.agg #[.int .i64 u1.k, .int .i64 u1.c, .int .i64 u1.q, .int .i64 u1.h, .int .i64 u1.a, .int .i64 u1.t, .slice Q6 u1.p.length qm6, .slice Q7 u1.s.length qm7, .slice Q8 u1.r.length qm8], .agg #[.int .i64 u1.k, .int .i64 u1.c, .int .i64 u1.q, .int .i64 u1.h, .int .i64 u1.a, .int .i64 u1.t, .slice V6 u1.p.length vm6, .slice V7 u1.s.length vm7, .slice V8 u1.r.length vm8]] (wanted_on rfl rfl rfl e120) rfl rfl (by simp only [List.map_toArray, List.map_cons, List.map_nil, Act.eval, Array.getD_eq_getD_getElem?, Option.getD_some, e121, e122]) ?_
                    refine (ops_calls u1 Q6 qm6 Q7 qm7 Q8 qm8 u1 V6 vm6 V7 vm7 V8 vm8 w' (Lies.below LZ.out HW.out) (Lies.below L1.out HW.out)).mono ?_
                    rintro e w2 ⟨he, hB⟩
                    rw [HSX.out] at he
                    subst he
                    refine ⟨_, rfl, ?_⟩
                    refine hK.out _ _ ⟨(by rw [ha.out]; exact putSel_upk 4 hb_ rfl rfl rfl), below_step HW.out hB⟩
                  refine steps_cons ?_ ?_
                  · rintro b a w' ⟨ha, Q_HW⟩ hb_ hon hoff
                    refine ⟨_, rfl, fun K hK => ?_⟩
                    have e120 : a.tmps[120]? = some (.bool true) := by rw [ha]; exact putSel_on (e := (2, 120, .bool true)) 1 rfl rfl (hon 2 (by kernel_rfl)) rfl
                    have e123 : a.tmps[123]? = some (.bool true) := by rw [ha]; exact putSel_on (e := (5, 123, .bool true)) 4 rfl rfl (hon 5 (by kernel_rfl)) rfl
                    replace ha := Aside0.mk ha
                    have HW := Aside0.mk Q_HW
                    refine value_ (w1 := w') (v := .bool true) (by rfl) rfl ?_ ?_
                    · go_simp
                      (try simp only [i64_w])
                      try rfl
                    refine hK.out _ _ ⟨(by rw [ha.out]; exact putSel_upk 5 hb_ rfl rfl rfl), Q_HW⟩
                  refine steps_cons ?_ ?_
                  · rintro b a w' ⟨ha, Q_HW⟩ hb_ hon hoff
                    refine ⟨_, rfl, fun K hK => ?_⟩
                    have e124 : a.tmps[124]? = some (.bool true) := by rw [ha]; exact putSel_on (e := (6, 124, .bool true)) 5 rfl rfl (hon 6 (by kernel_rfl)) rfl
                    replace ha := Aside0.mk ha
                    have HW := Aside0.mk Q_HW
                    refine value_ (w1 := w') (v := .bool true) (by rfl) rfl ?_ ?_
                    · go_simp
                      (try simp only [i64_w])
                      try rfl
                    refine hK.out _ _ ⟨(by rw [ha.out]; exact putSel_upk 6 hb_ rfl rfl rfl), Q_HW⟩
                  refine steps_cons ?_ ?_
                  · rintro b a w' ⟨ha, Q_HW⟩ hb_ hon hoff
                    refine ⟨_, rfl, fun K hK => ?_⟩
                    have e15 : a.tmps[15]? = some (.iface tf zf) := by rw [ha]; exact (putSel_off rfl).trans rfl
                    have e125 : a.tmps[125]? = some (.bool true) := by rw [ha]; exact putSel_on (e := (7, 125, .bool true)) 6 rfl rfl (hon 7 (by kernel_rfl)) rfl
                    replace ha := Aside0.mk ha
                    have HW := Aside0.mk Q_HW
                    refine value_ (w1 := w') (v := .iface tf zf) (wanted_on rfl rfl rfl (e125.trans (by first | rfl | (simp [*]; done)))) rfl ?_ ?_
                    · go_simp
                      (try simp only [i64_w])
                      try rfl
                    refine hK.out _ _ ⟨(by rw [ha.out]; exact putSel_upk 7 hb_ rfl rfl rfl), Q_HW⟩
                  refine steps_cons ?_ ?_
                  · rintro b a w' ⟨ha, Q_HW⟩ hb_ hon hoff
                    refine ⟨_, rfl, fun K hK => ?_⟩
                    have e126 : a.tmps[126]? = some (.iface tf zf) := by rw [ha]; exact putSel_on (e := (8, 126, .iface tf zf)) 7 rfl rfl (hon 8 (by kernel_rfl)) rfl
                    have e125 : a.tmps[125]? = some (.bool true) := by rw [ha]; exact putSel_on (e := (7, 125, .bool true)) 6 rfl rfl (hon 7 (by kernel_rfl)) rfl
                    replace ha := Aside0.mk ha
                    have HW := Aside0.mk Q_HW
                    refine value_ (w1 := w') (v := .bool true) (wanted_on rfl rfl rfl (e125.trans (by first | rfl | (simp [*]; done)))) rfl ?_ ?_
                    · go_simp
                      (try simp only [i64_w])
                      try rfl
                    refine hK.out _ _ ⟨(by rw [ha.out]; exact putSel_upk 8 hb_ rfl rfl rfl), Q_HW⟩
                  refine steps_cons ?_ ?_
                  · rintro b a w' ⟨ha, Q_HW⟩ hb_ hon hoff
                    refine ⟨_, rfl, fun K hK => ?_⟩
                    have e127 : a.tmps[127]? = some (.bool true) := by rw [ha]; exact putSel_on (e := (9, 127, .bool true)) 8 rfl rfl (hon 9 (by kernel_rfl)) rfl
                    have e125 : a.tmps[125]? = some (.bool true) := by rw [ha]; exact putSel_on (e := (7, 125, .bool true)) 6 rfl rfl (hon 7 (by kernel_rfl)) rfl
                    replace ha := Aside0.mk ha
                    have HW := Aside0.mk Q_HW
                    refine value_ (w1 := w') (v := .bool true) (wanted_on rfl rfl rfl (e125.trans (by first | rfl | (simp [*]; done)))) rfl ?_ ?_
                    · go_simp
                      (try simp only [i64_w])
                      try rfl
                    refine hK.out _ _ ⟨(by rw [ha.out]; exact putSel_upk 9 hb_ rfl rfl rfl), Q_HW⟩
                  refine steps_cons ?_ ?_
                  · rintro b a w' ⟨ha, Q_HW⟩ hb_ hon hoff
                    refine ⟨_, rfl, fun K hK => ?_⟩
                    have e128 : a.tmps[128]? = some (.bool true) := by rw [ha]; exact putSel_on (e := (10, 128, .bool true)) 9 rfl rfl (hon 10 (by kernel_rfl)) rfl
                    replace ha := Aside0.mk ha
                    have HW := Aside0.mk Q_HW
                    refine off_ (wanted_off rfl rfl rfl (e128.trans (by first | rfl | (simp [*]; done)))) ?_
                    refine hK.out _ _ ⟨(by rw [ha.out]; exact putSel_upk 10 hb_ rfl rfl rfl), Q_HW⟩
                  refine steps_cons ?_ ?_
                  · rintro b a w' ⟨ha, Q_HW⟩ hb_ hon hoff
                    refine ⟨_, rfl, fun K hK => ?_⟩
                    have e128 : a.tmps[128]? = some (.bool true) := by rw [ha]; exact putSel_on (e := (10, 128, .bool true)) 9 rfl rfl (hon 10 (by kernel_rfl)) rfl
                    replace ha := Aside0.mk ha
                    have HW := Aside0.mk Q_HW
                    refine off_ (wanted_off rfl rfl rfl (e128.trans (by first | rfl | (simp [*]; done)))) ?_
                    refine hK.out _ _ ⟨(by rw [ha.out]; exact putSel_upk 11 hb_ rfl rfl rfl), Q_HW⟩
                  refine steps_cons ?_ ?_
                  · rintro b a w' ⟨ha, Q_HW⟩ hb_ hon hoff
                    refine ⟨_, rfl, fun K hK => ?_⟩
                    have e128 : a.tmps[128]? = some (.bool true) := by rw [ha]; exact putSel_on (e := (10, 128, .bool true)) 9 rfl rfl (hon 10 (by kernel_rfl)) rfl
                    replace ha := Aside0.mk ha
                    have HW := Aside0.mk Q_HW
                    refine off_ (wanted_off rfl rfl rfl (e128.trans (by first | rfl | (simp [*]; done)))) ?_
                    refine hK.out _ _ ⟨(by rw [ha.out]; exact putSel_upk 12 hb_ rfl rfl rfl), Q_HW⟩
                  refine steps_cons ?_ ?_
                  · rintro b a w' ⟨ha, Q_HW⟩ hb_ hon hoff
                    refine ⟨_, rfl, fun K hK => ?_⟩
                    have e128 : a.tmps[128]? = some (.bool true) := by rw [ha]; exact putSel_on (e := (10, 128, .bool true)) 9 rfl rfl (hon 10 (by kernel_rfl)) rfl
                    replace ha := Aside0.mk ha
                    have HW := Aside0.mk Q_HW
                    refine off_ (wanted_off rfl rfl rfl (e128.trans (by first | rfl | (simp [*]; done)))) ?_
                    refine hK.out _ _ ⟨(by rw [ha.out]; exact putSel_upk 13 hb_ rfl rfl rfl), Q_HW⟩
                  refine steps_cons ?_ ?_
                  · rintro b a w' ⟨ha, Q_HW⟩ hb_ hon hoff
                    refine ⟨_, rfl, fun K hK => ?_⟩
                    have e128 : a.tmps[128]? = some (.bool true) := by rw [ha]; exact putSel_on (e := (10, 128, .bool true)) 9 rfl rfl (hon 10 (by kernel_rfl)) rfl
                    replace ha := Aside0.mk ha
                    have HW := Aside0.mk Q_HW
                    refine off_ (wanted_off rfl rfl rfl (e128.trans (by first | rfl | (simp [*]; done)))) ?_
                    refine hK.out _ _ ⟨(by rw [ha.out]; exact putSel_upk 14 hb_ rfl rfl rfl), Q_HW⟩
                  refine steps_cons ?_ ?_
                  · rintro b a w' ⟨ha, Q_HW⟩ hb_ hon hoff
                    refine ⟨_, rfl, fun K hK => ?_⟩
                    have e128 : a.tmps[128]? = some (.bool true) := by rw [ha]; exact putSel_on (e := (10, 128, .bool true)) 9 rfl rfl (hon 10 (by kernel_rfl)) rfl
                    replace ha := Aside0.mk ha
                    have HW := Aside0.mk Q_HW
                    refine off_ (wanted_off rfl rfl rfl (e128.trans (by first | rfl | (simp [*]; done)))) ?_
                    refine hK.out _ _ ⟨(by rw [ha.out]; exact putSel_upk 15 hb_ rfl rfl rfl), Q_HW⟩
                  refine steps_cons ?_ ?_
                  · rintro b a w' ⟨ha, Q_HW⟩ hb_ hon hoff
                    refine ⟨_, rfl, fun K hK => ?_⟩
                    have e128 : a.tmps[128]? = some (.bool true) := by rw [ha]; exact putSel_on (e := (10, 128, .bool true)) 9 rfl rfl (hon 10 (by kernel_rfl)) rfl
                    replace ha := Aside0.mk ha
                    have HW := Aside0.mk Q_HW
                    refine off_ (wanted_off rfl rfl rfl (e128.trans (by first | rfl | (simp [*]; done)))) ?_
                    refine hK.out _ _ ⟨(by rw [ha.out]; exact putSel_upk 16 hb_ rfl rfl rfl), Q_HW⟩
                  refine steps_cons ?_ ?_
                  · rintro b a w' ⟨ha, Q_HW⟩ hb_ hon hoff
                    refine ⟨_, rfl, fun K hK => ?_⟩
                    have e128 : a.tmps[128]? = some (.bool true) := by rw [ha]; exact putSel_on (e := (10, 128, .bool true)) 9 rfl rfl (hon 10 (by kernel_rfl)) rfl
                    have e135 : a.tmps[135]? = some (undef) := by rw [ha]; exact putSel_on (e := (17, 135, undef)) 16 rfl rfl (hon 17 (by kernel_rfl)) rfl
                    have e125 : a.tmps[125]? = some (.bool true) := by rw [ha]; exact putSel_on (e := (7, 125, .bool true)) 6 rfl rfl (hon 7 (by kernel_rfl)) rfl
                    replace ha := Aside0.mk ha
                    have HW := Aside0.mk Q_HW
                    refine value_ (w1 := w') (v := .bool true) (wanted_on rfl rfl rfl (e125.trans (by first | rfl | (simp [*]; done)))) rfl ?_ ?_
                    · go_simp
                      (try simp only [i64_w])
                      try rfl
                    refine hK.out _ _ ⟨(by rw [ha.out]; exact putSel_upk 17 hb_ rfl rfl rfl), Q_HW⟩
                  refine steps_cons ?_ ?_
                  · rintro b a w' ⟨ha, Q_HW⟩ hb_ hon hoff
                    refine ⟨_, rfl, fun K hK => ?_⟩
                    have e125 : a.tmps[125]? = some (.bool true) := by rw [ha]; exact putSel_on (e := (7, 125, .bool true)) 6 rfl rfl (hon 7 (by kernel_rfl)) rfl
                    have e136 : a.tmps[136]? = some (.bool true) := by rw [ha]; exact putSel_on (e := (18, 136, .bool true)) 17 rfl rfl (hon 18 (by kernel_rfl)) rfl
                    replace ha := Aside0.mk ha
                    have HW := Aside0.mk Q_HW
                    refine value_ (w1 := w') (v := .bool true) (by rfl) rfl ?_ ?_
                    · go_simp
                      (try simp only [i64_w])
                      try rfl
                    refine hK.out _ _ ⟨(by rw [ha.out]; exact putSel_upk 18 hb_ rfl rfl rfl), Q_HW⟩
                  refine steps_cons ?_ ?_
                  · rintro b a w' ⟨ha, Q_HW⟩ hb_ hon hoff
                    refine ⟨_, rfl, fun K hK => ?_⟩
                    have e137 : a.tmps[137]? = some (.bool true) := by rw [ha]; exact putSel_on (e := (19, 137, .bool true)) 18 rfl rfl (hon 19 (by kernel_rfl)) rfl
                    replace ha := Aside0.mk ha
                    have HW := Aside0.mk Q_HW
                    refine value_ (w1 := w') (v := .bool true) (by rfl) rfl ?_ ?_
                    · go_simp
                      (try simp only [i64_w])
                      try rfl
                    refine hK.out _ _ ⟨(by rw [ha.out]; exact putSel_upk 19 hb_ rfl rfl rfl), Q_HW⟩
                  refine steps_cons ?_ ?_
                  · rintro b a w' ⟨ha, Q_HW⟩ hb_ hon hoff
                    refine ⟨_, rfl, fun K hK => ?_⟩
                    have e138 : a.tmps[138]? = some (.bool true) := by rw [ha]; exact putSel_on (e := (20, 138, .bool true)) 19 rfl rfl (hon 20 (by kernel_rfl)) rfl
                    replace ha := Aside0.mk ha
                    have HW := Aside0.mk Q_HW
                    refine goes_ Tryd.func3 (by kernel_rfl) rfl #[] (wanted_on rfl rfl rfl e138) rfl rfl (by simp only [List.map_toArray, List.map_cons, List.map_nil, Act.eval, Array.getD_eq_getD_getElem?, Option.getD_some]) ?_
                    refine (Cr.codeRuns_calls w' (Go.Proofs.YtbplemhjhpfkgaaDoor.Ft.Door.below HGk.out HW.out)).mono ?_
                    rintro e w2 ⟨he, hB⟩
                    subst he
                    refine ⟨_, rfl, ?_⟩
                    refine hK.out _ _ ⟨(by rw [ha.out]; exact putSel_upk 20 hb_ rfl rfl rfl), below_step HW.out hB⟩
                  refine steps_cons ?_ ?_
                  · rintro b a w' ⟨ha, Q_HW⟩ hb_ hon hoff
                    refine ⟨_, rfl, fun K hK => ?_⟩
                    have e138 : a.tmps[138]? = some (.bool true) := by rw [ha]; exact putSel_on (e := (20, 138, .bool true)) 19 rfl rfl (hon 20 (by kernel_rfl)) rfl
                    have e139 : a.tmps[139]? = some (.bool true) := by rw [ha]; exact putSel_on (e := (21, 139, .bool true)) 20 rfl rfl (hon 21 (by kernel_rfl)) rfl
                    replace ha := Aside0.mk ha
                    have HW := Aside0.mk Q_HW
                    refine value_ (w1 := w') (v := .bool true) (by rfl) rfl ?_ ?_
                    · go_simp
                      (try simp only [i64_w])
                      try rfl
                    refine hK.out _ _ ⟨(by rw [ha.out]; exact putSel_upk 21 hb_ rfl rfl rfl), Q_HW⟩
                  refine steps_cons ?_ ?_
                  · rintro b a w' ⟨ha, Q_HW⟩ hb_ hon hoff
                    refine ⟨_, rfl, fun K hK => ?_⟩
                    have e140 : a.tmps[140]? = some (.bool true) := by rw [ha]; exact putSel_on (e := (22, 140, .bool true)) 21 rfl rfl (hon 22 (by kernel_rfl)) rfl
                    replace ha := Aside0.mk ha
                    have HW := Aside0.mk Q_HW
                    refine value_ (w1 := w') (v := .bool true) (by rfl) rfl ?_ ?_
                    · go_simp
                      (try simp only [i64_w])
                      try rfl
                    refine hK.out _ _ ⟨(by rw [ha.out]; exact putSel_upk 22 hb_ rfl rfl rfl), Q_HW⟩
                  exact steps_nil
                · rintro b a w' hall ⟨ha, Q_HW⟩
                  clear HW
                  have hb1_ := hall 1 (by kernel_rfl)
                  have hb2_ := hall 2 (by kernel_rfl)
                  have hb3_ := hall 3 (by kernel_rfl)
                  have hb4_ := hall 4 (by kernel_rfl)
                  have hb5_ := hall 5 (by kernel_rfl)
                  have hb6_ := hall 6 (by kernel_rfl)
                  have hb7_ := hall 7 (by kernel_rfl)
                  have hb8_ := hall 8 (by kernel_rfl)
                  have hb9_ := hall 9 (by kernel_rfl)
                  have hb10_ := hall 10 (by kernel_rfl)
                  have hb11_ := hall 11 (by kernel_rfl)
                  have hb12_ := hall 12 (by kernel_rfl)
                  have hb13_ := hall 13 (by kernel_rfl)
                  have hb14_ := hall 14 (by kernel_rfl)
                  have hb15_ := hall 15 (by kernel_rfl)
                  have hb16_ := hall 16 (by kernel_rfl)
                  have hb17_ := hall 17 (by kernel_rfl)
                  have hb18_ := hall 18 (by kernel_rfl)
                  have hb19_ := hall 19 (by kernel_rfl)
                  have hb20_ := hall 20 (by kernel_rfl)
                  have hb21_ := hall 21 (by kernel_rfl)
                  have hb22_ := hall 22 (by kernel_rfl)
                  have hb23_ := hall 23 (by kernel_rfl)
                  subst ha
                  simp only [putSel, hb1_, hb2_, hb3_, hb4_, hb5_, hb6_, hb7_, hb8_, hb9_, hb10_, hb11_, hb12_, hb13_, hb14_, hb15_, hb16_, hb17_, hb18_, hb19_, hb20_, hb21_, hb22_, hb23_, if_true, Act.put, List.setIfInBounds_toArray, List.set_cons_zero, List.set_cons_succ]
                  have HW := Aside0.mk Q_HW
                  clear Q_HW
                  clear hall hb1_ hb2_ hb3_ hb4_ hb5_ hb6_ hb7_ hb8_ hb9_ hb10_ hb11_ hb12_ hb13_ hb14_ hb15_ hb16_ hb17_ hb18_ hb19_ hb20_ hb21_ hb22_ hb23_
                  go_wp2
                  go_ret
                  exact ⟨rfl, below_step HW6.out HW.out⟩
end Go.Proofs.YtbplemhjhpfkgaaDoor.Cd

/-
 The reference's RightMessage says what rightM says.
-/
import Derived.Test.YtbplemhjhpfkgaaDoorZRefPred
import Derived.Test.YtbplemhjhpfkgaaDoorZRefTup
import Derived.Test.YtbplemhjhpfkgaaDoorZWireRight
namespace Go.Proofs.YtbplemhjhpfkgaaDoor.Wr
open Go.RowKit YtbplemhjhpfkgaaDoorW.PrintWords YtbplemhjhpfkgaaDoorW.PrintLast YtbplemhjhpfkgaaDoorW.PrintMore Rd
open Go.Proofs.YtbplemhjhpfkgaaDoor.Cd (Co At kCo kAt at_Co at_At)
set_option linter.unusedVariables false
set_option linter.unusedSimpArgs false
attribute [local go_sem high] eqA_ID
theorem rf7 {wa wb w0 : World} {gx gy : Nat} {C D : Array Value} {t u : TypeId} (hx : Aside0 (wa.heap[gx]? = some (.cells C t (0, 0)))) (hy : Aside0 (wa.heap[gy]? = some (.cells D u (0, 0)))) (h : Aside0 (Below w0.heap.size w0 wa)) (hB : Below wa.heap.size wa wb) : Aside0 (wb.heap[gx]? = some (.cells C t (0, 0))) ∧ Aside0 (wb.heap[gy]? = some (.cells D u (0, 0))) ∧ wb.cell? ⟨gx, 0, none⟩ = C[0]? ∧ wb.cell? ⟨gx, 1, none⟩ = C[1]? ∧ wb.cell? ⟨gx, 2, none⟩ = C[2]? ∧ wb.cell? ⟨gx, 3, none⟩ = C[3]? ∧ wb.cell? ⟨gx, 4, none⟩ = C[4]? ∧ wb.cell? ⟨gx, 5, none⟩ = C[5]? ∧ wb.cell? ⟨gx, 6, none⟩ = C[6]? ∧ wb.cell? ⟨gy, 0, none⟩ = D[0]? ∧ wb.cell? ⟨gy, 1, none⟩ = D[1]? ∧ Aside0 (Below w0.heap.size w0 wb) := by
 have h1 := blk_below hx.out hB; have h2 := blk_below hy.out hB; exact ⟨⟨h1⟩, ⟨h2⟩, blk_cell h1 0, blk_cell h1 1, blk_cell h1 2, blk_cell h1 3, blk_cell h1 4, blk_cell h1 5, blk_cell h1 6, blk_cell h2 0, blk_cell h2 1, ⟨below_step h.out hB⟩⟩
set_option maxRecDepth 100000 in
set_option maxHeartbeats 16000000 in
theorem rmsg_calls (m : MsgD) (A5 : Option Addr) (m5 : Nat) (A6 : Option Addr) (m6 : Nat) (w : World) (h : LiesM w m A5 A6) (hs : SmM m) :
  Calls Tryd.prog 41 #[mW m A5 m5 A6 m6] w fun e w' => e = .returned (.bool (rightM m)) ∧ Below w.heap.size w w' := by
 have HL := sd h; have HS := sd hs; clear h hs; obtain ⟨k, tc, ts, ic, is, p, s⟩ := m; obtain ⟨bt1, ht1⟩ : ∃ b, idOk tc ts = b := ⟨_, rfl⟩; obtain ⟨bp, hp1⟩ : ∃ b, predOk p = b := ⟨_, rfl⟩; obtain ⟨bs, hs1⟩ : ∃ b, tupOk s = b := ⟨_, rfl⟩; obtain ⟨bo, ho1⟩ : ∃ b, idOk ic is = b := ⟨_, rfl⟩; have HT1 := Lib.hid ht1; have HPR := Lib.hid hp1; have HTU := Lib.hid hs1; have HO1 := Lib.hid ho1; have HZ0 := Lib.hid (show idOk 0 0 = true by decide); have HZ1 := Lib.hid (show predOk [] = true from rfl); have HZ2 := Lib.hid (show tupOk [] = true from rfl); clear ht1 hp1 hs1 ho1; have HX := sd (blk_alloc (blk_new w (.cells #[.int .i64 k, .int .i64 tc, .int .i64 ts, .int .i64 ic, .int .i64 is, .slice A5 p.length m5, .slice A6 s.length m6] 50)) (.cells #[.int .i64 0, .int .i64 0] 48)); have HY := sd (blk_new (w.alloc (.cells #[.int .i64 k, .int .i64 tc, .int .i64 ts, .int .i64 ic, .int .i64 is, .slice A5 p.length m5, .slice A6 s.length m6] 50)) (.cells #[.int .i64 0, .int .i64 0] 48)); rw [show (w.alloc (.cells #[.int .i64 k, .int .i64 tc, .int .i64 ts, .int .i64 ic, .int .i64 is, .slice A5 p.length m5, .slice A6 s.length m6] 50)).heap.size = w.heap.size + 1 by simp] at HY; have HB := sd (below_alloc (below_alloc (Below.refl w.heap.size w) (.cells #[.int .i64 k, .int .i64 tc, .int .i64 ts, .int .i64 ic, .int .i64 is, .slice A5 p.length m5, .slice A6 s.length m6] 50)) (.cells #[.int .i64 0, .int .i64 0] 48))
 by_cases h1 : k = 1
 ·subst h1; cases bt1
  case false =>
   have HF : Hid (rightM ⟨1, tc, ts, ic, is, p, s⟩ = false) := Lib.hid (by simp [rightM, kindOk, asksI, asksP, asksS, HT1.out, HPR.out, HTU.out, HO1.out, HZ0.out, HZ1.out, HZ2.out])
   go_enter Tryd.func41, Tryd.ntmps41
   go_wp2_with (first | (go_at_call 72; refine (rpred_calls _ _ p _ (Kd.C_below HL.out.p HB.out) HS.out.p).mono ?_; rintro e w4 ⟨he, hB⟩; rw [HPR.out] at he; subst he; (obtain ⟨HX, HY, q0, q1, q2, q3, q4, q5, q6, y0, y1, HB⟩ := rf7 HX HY HB hB; clear hB)) | (go_at_call 71; refine (rid_right tc ts _).mono ?_; rintro e w2 ⟨he, hB⟩; rw [HT1.out] at he; subst he; have HTD := sd True.intro; (obtain ⟨HX, HY, q0, q1, q2, q3, q4, q5, q6, y0, y1, HB⟩ := rf7 HX HY HB hB; clear hB))); go_ret; exact ⟨by rw [HF.out]; rfl, HB.out⟩
  case true =>
   by_cases i0 : ic = 0
   case neg =>
    have c0 : (ic == 0) = false := by simp [i0]
    have HN0 := Lib.hid i0; clear i0; have HF : Hid (rightM ⟨1, tc, ts, ic, is, p, s⟩ = false) := Lib.hid (by simp [rightM, kindOk, asksI, asksP, asksS, HT1.out, HPR.out, HTU.out, HO1.out, HZ0.out, HZ1.out, HZ2.out, HN0.out])
    go_enter Tryd.func41, Tryd.ntmps41
    go_wp2_with (first | (go_at_call 72; refine (rpred_calls _ _ p _ (Kd.C_below HL.out.p HB.out) HS.out.p).mono ?_; rintro e w4 ⟨he, hB⟩; rw [HPR.out] at he; subst he; (obtain ⟨HX, HY, q0, q1, q2, q3, q4, q5, q6, y0, y1, HB⟩ := rf7 HX HY HB hB; clear hB)) | (go_at_call 71; refine (rid_right tc ts _).mono ?_; rintro e w2 ⟨he, hB⟩; rw [HT1.out] at he; subst he; have HTD := sd True.intro; (obtain ⟨HX, HY, q0, q1, q2, q3, q4, q5, q6, y0, y1, HB⟩ := rf7 HX HY HB hB; clear hB))); go_ret; exact ⟨by rw [HF.out]; rfl, HB.out⟩
   subst i0
   by_cases i1 : is = 0
   case neg =>
    have c1 : (is == 0) = false := by simp [i1]
    have HN1 := Lib.hid i1; clear i1; have HF : Hid (rightM ⟨1, tc, ts, 0, is, p, s⟩ = false) := Lib.hid (by simp [rightM, kindOk, asksI, asksP, asksS, HT1.out, HPR.out, HTU.out, HO1.out, HZ0.out, HZ1.out, HZ2.out, HN1.out])
    go_enter Tryd.func41, Tryd.ntmps41
    go_wp2_with (first | (go_at_call 72; refine (rpred_calls _ _ p _ (Kd.C_below HL.out.p HB.out) HS.out.p).mono ?_; rintro e w4 ⟨he, hB⟩; rw [HPR.out] at he; subst he; (obtain ⟨HX, HY, q0, q1, q2, q3, q4, q5, q6, y0, y1, HB⟩ := rf7 HX HY HB hB; clear hB)) | (go_at_call 71; refine (rid_right tc ts _).mono ?_; rintro e w2 ⟨he, hB⟩; rw [HT1.out] at he; subst he; have HTD := sd True.intro; (obtain ⟨HX, HY, q0, q1, q2, q3, q4, q5, q6, y0, y1, HB⟩ := rf7 HX HY HB hB; clear hB))); go_ret; exact ⟨by rw [HF.out]; rfl, HB.out⟩
   subst i1; cases bp
   case false =>
    have HF : Hid (rightM ⟨1, tc, ts, 0, 0, p, s⟩ = false) := Lib.hid (by simp [rightM, kindOk, asksI, asksP, asksS, HT1.out, HPR.out, HTU.out, HO1.out, HZ0.out, HZ1.out, HZ2.out])
    go_enter Tryd.func41, Tryd.ntmps41
    go_wp2_with (first | (go_at_call 72; refine (rpred_calls _ _ p _ (Kd.C_below HL.out.p HB.out) HS.out.p).mono ?_; rintro e w4 ⟨he, hB⟩; rw [HPR.out] at he; subst he; (obtain ⟨HX, HY, q0, q1, q2, q3, q4, q5, q6, y0, y1, HB⟩ := rf7 HX HY HB hB; clear hB)) | (go_at_call 71; refine (rid_right tc ts _).mono ?_; rintro e w2 ⟨he, hB⟩; rw [HT1.out] at he; subst he; have HTD := sd True.intro; (obtain ⟨HX, HY, q0, q1, q2, q3, q4, q5, q6, y0, y1, HB⟩ := rf7 HX HY HB hB; clear hB))); go_ret; exact ⟨by rw [HF.out]; rfl, HB.out⟩
   case true =>
    by_cases s0 : s = []
    case neg =>
     have c3 : 0 < s.length := List.length_pos_iff.2 s0; have c3b : ((s.length : Int) == 0) = false := by simp [s0]
     have HNs := Lib.hid s0; clear s0; have HF : Hid (rightM ⟨1, tc, ts, 0, 0, p, s⟩ = false) := Lib.hid (by simp [rightM, kindOk, asksI, asksP, asksS, HT1.out, HPR.out, HTU.out, HO1.out, HZ0.out, HZ1.out, HZ2.out, HNs.out])
     go_enter Tryd.func41, Tryd.ntmps41
     go_wp2_with (first | (go_at_call 72; refine (rpred_calls _ _ p _ (Kd.C_below HL.out.p HB.out) HS.out.p).mono ?_; rintro e w4 ⟨he, hB⟩; rw [HPR.out] at he; subst he; (obtain ⟨HX, HY, q0, q1, q2, q3, q4, q5, q6, y0, y1, HB⟩ := rf7 HX HY HB hB; clear hB)) | (go_at_call 71; refine (rid_right tc ts _).mono ?_; rintro e w2 ⟨he, hB⟩; rw [HT1.out] at he; subst he; have HTD := sd True.intro; (obtain ⟨HX, HY, q0, q1, q2, q3, q4, q5, q6, y0, y1, HB⟩ := rf7 HX HY HB hB; clear hB))); go_ret; exact ⟨by rw [HF.out]; rfl, HB.out⟩
    subst s0; have HF : Hid (rightM ⟨1, tc, ts, 0, 0, p, []⟩ = true) := Lib.hid (by simp [rightM, kindOk, asksI, asksP, asksS, HT1.out, HPR.out, HTU.out, HO1.out, HZ0.out, HZ1.out, HZ2.out, HTU.out.symm.trans HZ2.out, HO1.out.symm.trans HZ0.out])
    go_enter Tryd.func41, Tryd.ntmps41
    go_wp2_with (first | (go_at_call 72; refine (rpred_calls _ _ p _ (Kd.C_below HL.out.p HB.out) HS.out.p).mono ?_; rintro e w4 ⟨he, hB⟩; rw [HPR.out] at he; subst he; (obtain ⟨HX, HY, q0, q1, q2, q3, q4, q5, q6, y0, y1, HB⟩ := rf7 HX HY HB hB; clear hB)) | (go_at_call 71; refine (rid_right tc ts _).mono ?_; rintro e w2 ⟨he, hB⟩; rw [HT1.out] at he; subst he; have HTD := sd True.intro; (obtain ⟨HX, HY, q0, q1, q2, q3, q4, q5, q6, y0, y1, HB⟩ := rf7 HX HY HB hB; clear hB))); go_ret; exact ⟨by rw [HF.out]; rfl, HB.out⟩
 have n1 : (k == 1) = false := by simp [h1]
 by_cases h2 : k = 2
 ·subst h2; cases bt1
  case false =>
   have HF : Hid (rightM ⟨2, tc, ts, ic, is, p, s⟩ = false) := Lib.hid (by simp [rightM, kindOk, asksI, asksP, asksS, HT1.out, HPR.out, HTU.out, HO1.out, HZ0.out, HZ1.out, HZ2.out])
   go_enter Tryd.func41, Tryd.ntmps41
   go_wp2_with (first | (go_at_call 71; refine (rid_right tc ts _).mono ?_; rintro e w2 ⟨he, hB⟩; rw [HT1.out] at he; subst he; have HTD := sd True.intro; (obtain ⟨HX, HY, q0, q1, q2, q3, q4, q5, q6, y0, y1, HB⟩ := rf7 HX HY HB hB; clear hB))); go_ret; exact ⟨by rw [HF.out]; rfl, HB.out⟩
  case true =>
   by_cases i0 : ic = 0
   case neg =>
    have c0 : (ic == 0) = false := by simp [i0]
    have HN0 := Lib.hid i0; clear i0; have HF : Hid (rightM ⟨2, tc, ts, ic, is, p, s⟩ = false) := Lib.hid (by simp [rightM, kindOk, asksI, asksP, asksS, HT1.out, HPR.out, HTU.out, HO1.out, HZ0.out, HZ1.out, HZ2.out, HN0.out])
    go_enter Tryd.func41, Tryd.ntmps41
    go_wp2_with (first | (go_at_call 71; refine (rid_right tc ts _).mono ?_; rintro e w2 ⟨he, hB⟩; rw [HT1.out] at he; subst he; have HTD := sd True.intro; (obtain ⟨HX, HY, q0, q1, q2, q3, q4, q5, q6, y0, y1, HB⟩ := rf7 HX HY HB hB; clear hB))); go_ret; exact ⟨by rw [HF.out]; rfl, HB.out⟩
   subst i0
   by_cases i1 : is = 0
   case neg =>
    have c1 : (is == 0) = false := by simp [i1]
    have HN1 := Lib.hid i1; clear i1; have HF : Hid (rightM ⟨2, tc, ts, 0, is, p, s⟩ = false) := Lib.hid (by simp [rightM, kindOk, asksI, asksP, asksS, HT1.out, HPR.out, HTU.out, HO1.out, HZ0.out, HZ1.out, HZ2.out, HN1.out])
    go_enter Tryd.func41, Tryd.ntmps41
    go_wp2_with (first | (go_at_call 71; refine (rid_right tc ts _).mono ?_; rintro e w2 ⟨he, hB⟩; rw [HT1.out] at he; subst he; have HTD := sd True.intro; (obtain ⟨HX, HY, q0, q1, q2, q3, q4, q5, q6, y0, y1, HB⟩ := rf7 HX HY HB hB; clear hB))); go_ret; exact ⟨by rw [HF.out]; rfl, HB.out⟩
   subst i1
   by_cases p0 : p = []
   case neg =>
    have c2 : 0 < p.length := List.length_pos_iff.2 p0; have c2b : ((p.length : Int) == 0) = false := by simp [p0]
    have HNp := Lib.hid p0; clear p0; have HF : Hid (rightM ⟨2, tc, ts, 0, 0, p, s⟩ = false) := Lib.hid (by simp [rightM, kindOk, asksI, asksP, asksS, HT1.out, HPR.out, HTU.out, HO1.out, HZ0.out, HZ1.out, HZ2.out, HNp.out])
    go_enter Tryd.func41, Tryd.ntmps41
    go_wp2_with (first | (go_at_call 71; refine (rid_right tc ts _).mono ?_; rintro e w2 ⟨he, hB⟩; rw [HT1.out] at he; subst he; have HTD := sd True.intro; (obtain ⟨HX, HY, q0, q1, q2, q3, q4, q5, q6, y0, y1, HB⟩ := rf7 HX HY HB hB; clear hB))); go_ret; exact ⟨by rw [HF.out]; rfl, HB.out⟩
   subst p0
   by_cases s0 : s = []
   case neg =>
    have c3 : 0 < s.length := List.length_pos_iff.2 s0; have c3b : ((s.length : Int) == 0) = false := by simp [s0]
    have HNs := Lib.hid s0; clear s0; have HF : Hid (rightM ⟨2, tc, ts, 0, 0, [], s⟩ = false) := Lib.hid (by simp [rightM, kindOk, asksI, asksP, asksS, HT1.out, HPR.out, HTU.out, HO1.out, HZ0.out, HZ1.out, HZ2.out, HNs.out])
    go_enter Tryd.func41, Tryd.ntmps41
    go_wp2_with (first | (go_at_call 71; refine (rid_right tc ts _).mono ?_; rintro e w2 ⟨he, hB⟩; rw [HT1.out] at he; subst he; have HTD := sd True.intro; (obtain ⟨HX, HY, q0, q1, q2, q3, q4, q5, q6, y0, y1, HB⟩ := rf7 HX HY HB hB; clear hB))); go_ret; exact ⟨by rw [HF.out]; rfl, HB.out⟩
   subst s0; have HF : Hid (rightM ⟨2, tc, ts, 0, 0, [], []⟩ = true) := Lib.hid (by simp [rightM, kindOk, asksI, asksP, asksS, HT1.out, HPR.out, HTU.out, HO1.out, HZ0.out, HZ1.out, HZ2.out, HPR.out.symm.trans HZ1.out, HTU.out.symm.trans HZ2.out, HO1.out.symm.trans HZ0.out])
   go_enter Tryd.func41, Tryd.ntmps41
   go_wp2_with (first | (go_at_call 71; refine (rid_right tc ts _).mono ?_; rintro e w2 ⟨he, hB⟩; rw [HT1.out] at he; subst he; have HTD := sd True.intro; (obtain ⟨HX, HY, q0, q1, q2, q3, q4, q5, q6, y0, y1, HB⟩ := rf7 HX HY HB hB; clear hB))); go_ret; exact ⟨by rw [HF.out]; rfl, HB.out⟩
 have n2 : (k == 2) = false := by simp [h2]
 by_cases h3 : k = 3
 ·subst h3; cases bt1
  case false =>
   have HF : Hid (rightM ⟨3, tc, ts, ic, is, p, s⟩ = false) := Lib.hid (by simp [rightM, kindOk, asksI, asksP, asksS, HT1.out, HPR.out, HTU.out, HO1.out, HZ0.out, HZ1.out, HZ2.out])
   go_enter Tryd.func41, Tryd.ntmps41
   go_wp2_with (first | (go_at_call 72; refine (rpred_calls _ _ p _ (Kd.C_below HL.out.p HB.out) HS.out.p).mono ?_; rintro e w4 ⟨he, hB⟩; rw [HPR.out] at he; subst he; (obtain ⟨HX, HY, q0, q1, q2, q3, q4, q5, q6, y0, y1, HB⟩ := rf7 HX HY HB hB; clear hB)) | (replace HTD := HTD; go_at_call 71; refine (rid_right ic is _).mono ?_; rintro e w3 ⟨he, hB⟩; rw [HO1.out] at he; subst he; (obtain ⟨HX, HY, q0, q1, q2, q3, q4, q5, q6, y0, y1, HB⟩ := rf7 HX HY HB hB; clear hB)) | (go_at_call 71; refine (rid_right tc ts _).mono ?_; rintro e w2 ⟨he, hB⟩; rw [HT1.out] at he; subst he; have HTD := sd True.intro; (obtain ⟨HX, HY, q0, q1, q2, q3, q4, q5, q6, y0, y1, HB⟩ := rf7 HX HY HB hB; clear hB))); go_ret; exact ⟨by rw [HF.out]; rfl, HB.out⟩
  case true =>
   cases bo
   case false =>
    have HF : Hid (rightM ⟨3, tc, ts, ic, is, p, s⟩ = false) := Lib.hid (by simp [rightM, kindOk, asksI, asksP, asksS, HT1.out, HPR.out, HTU.out, HO1.out, HZ0.out, HZ1.out, HZ2.out])
    go_enter Tryd.func41, Tryd.ntmps41
    go_wp2_with (first | (go_at_call 72; refine (rpred_calls _ _ p _ (Kd.C_below HL.out.p HB.out) HS.out.p).mono ?_; rintro e w4 ⟨he, hB⟩; rw [HPR.out] at he; subst he; (obtain ⟨HX, HY, q0, q1, q2, q3, q4, q5, q6, y0, y1, HB⟩ := rf7 HX HY HB hB; clear hB)) | (replace HTD := HTD; go_at_call 71; refine (rid_right ic is _).mono ?_; rintro e w3 ⟨he, hB⟩; rw [HO1.out] at he; subst he; (obtain ⟨HX, HY, q0, q1, q2, q3, q4, q5, q6, y0, y1, HB⟩ := rf7 HX HY HB hB; clear hB)) | (go_at_call 71; refine (rid_right tc ts _).mono ?_; rintro e w2 ⟨he, hB⟩; rw [HT1.out] at he; subst he; have HTD := sd True.intro; (obtain ⟨HX, HY, q0, q1, q2, q3, q4, q5, q6, y0, y1, HB⟩ := rf7 HX HY HB hB; clear hB))); go_ret; exact ⟨by rw [HF.out]; rfl, HB.out⟩
   case true =>
    cases bp
    case false =>
     have HF : Hid (rightM ⟨3, tc, ts, ic, is, p, s⟩ = false) := Lib.hid (by simp [rightM, kindOk, asksI, asksP, asksS, HT1.out, HPR.out, HTU.out, HO1.out, HZ0.out, HZ1.out, HZ2.out])
     go_enter Tryd.func41, Tryd.ntmps41
     go_wp2_with (first | (go_at_call 72; refine (rpred_calls _ _ p _ (Kd.C_below HL.out.p HB.out) HS.out.p).mono ?_; rintro e w4 ⟨he, hB⟩; rw [HPR.out] at he; subst he; (obtain ⟨HX, HY, q0, q1, q2, q3, q4, q5, q6, y0, y1, HB⟩ := rf7 HX HY HB hB; clear hB)) | (replace HTD := HTD; go_at_call 71; refine (rid_right ic is _).mono ?_; rintro e w3 ⟨he, hB⟩; rw [HO1.out] at he; subst he; (obtain ⟨HX, HY, q0, q1, q2, q3, q4, q5, q6, y0, y1, HB⟩ := rf7 HX HY HB hB; clear hB)) | (go_at_call 71; refine (rid_right tc ts _).mono ?_; rintro e w2 ⟨he, hB⟩; rw [HT1.out] at he; subst he; have HTD := sd True.intro; (obtain ⟨HX, HY, q0, q1, q2, q3, q4, q5, q6, y0, y1, HB⟩ := rf7 HX HY HB hB; clear hB))); go_ret; exact ⟨by rw [HF.out]; rfl, HB.out⟩
    case true =>
     by_cases s0 : s = []
     case neg =>
      have c3 : 0 < s.length := List.length_pos_iff.2 s0; have c3b : ((s.length : Int) == 0) = false := by simp [s0]
      have HNs := Lib.hid s0; clear s0; have HF : Hid (rightM ⟨3, tc, ts, ic, is, p, s⟩ = false) := Lib.hid (by simp [rightM, kindOk, asksI, asksP, asksS, HT1.out, HPR.out, HTU.out, HO1.out, HZ0.out, HZ1.out, HZ2.out, HNs.out])
      go_enter Tryd.func41, Tryd.ntmps41
      go_wp2_with (first | (go_at_call 72; refine (rpred_calls _ _ p _ (Kd.C_below HL.out.p HB.out) HS.out.p).mono ?_; rintro e w4 ⟨he, hB⟩; rw [HPR.out] at he; subst he; (obtain ⟨HX, HY, q0, q1, q2, q3, q4, q5, q6, y0, y1, HB⟩ := rf7 HX HY HB hB; clear hB)) | (replace HTD := HTD; go_at_call 71; refine (rid_right ic is _).mono ?_; rintro e w3 ⟨he, hB⟩; rw [HO1.out] at he; subst he; (obtain ⟨HX, HY, q0, q1, q2, q3, q4, q5, q6, y0, y1, HB⟩ := rf7 HX HY HB hB; clear hB)) | (go_at_call 71; refine (rid_right tc ts _).mono ?_; rintro e w2 ⟨he, hB⟩; rw [HT1.out] at he; subst he; have HTD := sd True.intro; (obtain ⟨HX, HY, q0, q1, q2, q3, q4, q5, q6, y0, y1, HB⟩ := rf7 HX HY HB hB; clear hB))); go_ret; exact ⟨by rw [HF.out]; rfl, HB.out⟩
     subst s0; have HF : Hid (rightM ⟨3, tc, ts, ic, is, p, []⟩ = true) := Lib.hid (by simp [rightM, kindOk, asksI, asksP, asksS, HT1.out, HPR.out, HTU.out, HO1.out, HZ0.out, HZ1.out, HZ2.out, HTU.out.symm.trans HZ2.out])
     go_enter Tryd.func41, Tryd.ntmps41
     go_wp2_with (first | (go_at_call 72; refine (rpred_calls _ _ p _ (Kd.C_below HL.out.p HB.out) HS.out.p).mono ?_; rintro e w4 ⟨he, hB⟩; rw [HPR.out] at he; subst he; (obtain ⟨HX, HY, q0, q1, q2, q3, q4, q5, q6, y0, y1, HB⟩ := rf7 HX HY HB hB; clear hB)) | (replace HTD := HTD; go_at_call 71; refine (rid_right ic is _).mono ?_; rintro e w3 ⟨he, hB⟩; rw [HO1.out] at he; subst he; (obtain ⟨HX, HY, q0, q1, q2, q3, q4, q5, q6, y0, y1, HB⟩ := rf7 HX HY HB hB; clear hB)) | (go_at_call 71; refine (rid_right tc ts _).mono ?_; rintro e w2 ⟨he, hB⟩; rw [HT1.out] at he; subst he; have HTD := sd True.intro; (obtain ⟨HX, HY, q0, q1, q2, q3, q4, q5, q6, y0, y1, HB⟩ := rf7 HX HY HB hB; clear hB))); go_ret; exact ⟨by rw [HF.out]; rfl, HB.out⟩
 have n3 : (k == 3) = false := by simp [h3]
 by_cases h4 : k = 4
 ·subst h4; cases bt1
  case false =>
   have HF : Hid (rightM ⟨4, tc, ts, ic, is, p, s⟩ = false) := Lib.hid (by simp [rightM, kindOk, asksI, asksP, asksS, HT1.out, HPR.out, HTU.out, HO1.out, HZ0.out, HZ1.out, HZ2.out])
   go_enter Tryd.func41, Tryd.ntmps41
   go_wp2_with (first | (replace HTD := HTD; go_at_call 71; refine (rid_right ic is _).mono ?_; rintro e w3 ⟨he, hB⟩; rw [HO1.out] at he; subst he; (obtain ⟨HX, HY, q0, q1, q2, q3, q4, q5, q6, y0, y1, HB⟩ := rf7 HX HY HB hB; clear hB)) | (go_at_call 71; refine (rid_right tc ts _).mono ?_; rintro e w2 ⟨he, hB⟩; rw [HT1.out] at he; subst he; have HTD := sd True.intro; (obtain ⟨HX, HY, q0, q1, q2, q3, q4, q5, q6, y0, y1, HB⟩ := rf7 HX HY HB hB; clear hB))); go_ret; exact ⟨by rw [HF.out]; rfl, HB.out⟩
  case true =>
   cases bo
   case false =>
    have HF : Hid (rightM ⟨4, tc, ts, ic, is, p, s⟩ = false) := Lib.hid (by simp [rightM, kindOk, asksI, asksP, asksS, HT1.out, HPR.out, HTU.out, HO1.out, HZ0.out, HZ1.out, HZ2.out])
    go_enter Tryd.func41, Tryd.ntmps41
    go_wp2_with (first | (replace HTD := HTD; go_at_call 71; refine (rid_right ic is _).mono ?_; rintro e w3 ⟨he, hB⟩; rw [HO1.out] at he; subst he; (obtain ⟨HX, HY, q0, q1, q2, q3, q4, q5, q6, y0, y1, HB⟩ := rf7 HX HY HB hB; clear hB)) | (go_at_call 71; refine (rid_right tc ts _).mono ?_; rintro e w2 ⟨he, hB⟩; rw [HT1.out] at he; subst he; have HTD := sd True.intro; (obtain ⟨HX, HY, q0, q1, q2, q3, q4, q5, q6, y0, y1, HB⟩ := rf7 HX HY HB hB; clear hB))); go_ret; exact ⟨by rw [HF.out]; rfl, HB.out⟩
   case true =>
    by_cases p0 : p = []
    case neg =>
     have c2 : 0 < p.length := List.length_pos_iff.2 p0; have c2b : ((p.length : Int) == 0) = false := by simp [p0]
     have HNp := Lib.hid p0; clear p0; have HF : Hid (rightM ⟨4, tc, ts, ic, is, p, s⟩ = false) := Lib.hid (by simp [rightM, kindOk, asksI, asksP, asksS, HT1.out, HPR.out, HTU.out, HO1.out, HZ0.out, HZ1.out, HZ2.out, HNp.out])
     go_enter Tryd.func41, Tryd.ntmps41
     go_wp2_with (first | (replace HTD := HTD; go_at_call 71; refine (rid_right ic is _).mono ?_; rintro e w3 ⟨he, hB⟩; rw [HO1.out] at he; subst he; (obtain ⟨HX, HY, q0, q1, q2, q3, q4, q5, q6, y0, y1, HB⟩ := rf7 HX HY HB hB; clear hB)) | (go_at_call 71; refine (rid_right tc ts _).mono ?_; rintro e w2 ⟨he, hB⟩; rw [HT1.out] at he; subst he; have HTD := sd True.intro; (obtain ⟨HX, HY, q0, q1, q2, q3, q4, q5, q6, y0, y1, HB⟩ := rf7 HX HY HB hB; clear hB))); go_ret; exact ⟨by rw [HF.out]; rfl, HB.out⟩
    subst p0
    by_cases s0 : s = []
    case neg =>
     have c3 : 0 < s.length := List.length_pos_iff.2 s0; have c3b : ((s.length : Int) == 0) = false := by simp [s0]
     have HNs := Lib.hid s0; clear s0; have HF : Hid (rightM ⟨4, tc, ts, ic, is, [], s⟩ = false) := Lib.hid (by simp [rightM, kindOk, asksI, asksP, asksS, HT1.out, HPR.out, HTU.out, HO1.out, HZ0.out, HZ1.out, HZ2.out, HNs.out])
     go_enter Tryd.func41, Tryd.ntmps41
     go_wp2_with (first | (replace HTD := HTD; go_at_call 71; refine (rid_right ic is _).mono ?_; rintro e w3 ⟨he, hB⟩; rw [HO1.out] at he; subst he; (obtain ⟨HX, HY, q0, q1, q2, q3, q4, q5, q6, y0, y1, HB⟩ := rf7 HX HY HB hB; clear hB)) | (go_at_call 71; refine (rid_right tc ts _).mono ?_; rintro e w2 ⟨he, hB⟩; rw [HT1.out] at he; subst he; have HTD := sd True.intro; (obtain ⟨HX, HY, q0, q1, q2, q3, q4, q5, q6, y0, y1, HB⟩ := rf7 HX HY HB hB; clear hB))); go_ret; exact ⟨by rw [HF.out]; rfl, HB.out⟩
    subst s0; have HF : Hid (rightM ⟨4, tc, ts, ic, is, [], []⟩ = true) := Lib.hid (by simp [rightM, kindOk, asksI, asksP, asksS, HT1.out, HPR.out, HTU.out, HO1.out, HZ0.out, HZ1.out, HZ2.out, HPR.out.symm.trans HZ1.out, HTU.out.symm.trans HZ2.out])
    go_enter Tryd.func41, Tryd.ntmps41
    go_wp2_with (first | (replace HTD := HTD; go_at_call 71; refine (rid_right ic is _).mono ?_; rintro e w3 ⟨he, hB⟩; rw [HO1.out] at he; subst he; (obtain ⟨HX, HY, q0, q1, q2, q3, q4, q5, q6, y0, y1, HB⟩ := rf7 HX HY HB hB; clear hB)) | (go_at_call 71; refine (rid_right tc ts _).mono ?_; rintro e w2 ⟨he, hB⟩; rw [HT1.out] at he; subst he; have HTD := sd True.intro; (obtain ⟨HX, HY, q0, q1, q2, q3, q4, q5, q6, y0, y1, HB⟩ := rf7 HX HY HB hB; clear hB))); go_ret; exact ⟨by rw [HF.out]; rfl, HB.out⟩
 have n4 : (k == 4) = false := by simp [h4]
 by_cases h5 : k = 5
 ·subst h5; cases bt1
  case false =>
   have HF : Hid (rightM ⟨5, tc, ts, ic, is, p, s⟩ = false) := Lib.hid (by simp [rightM, kindOk, asksI, asksP, asksS, HT1.out, HPR.out, HTU.out, HO1.out, HZ0.out, HZ1.out, HZ2.out])
   go_enter Tryd.func41, Tryd.ntmps41
   go_wp2_with (first | (go_at_call 73; refine (rtup_calls _ _ s _ (Kd.C_below HL.out.s HB.out) HS.out.s).mono ?_; rintro e w5 ⟨he, hB⟩; rw [HTU.out] at he; subst he; (obtain ⟨HX, HY, q0, q1, q2, q3, q4, q5, q6, y0, y1, HB⟩ := rf7 HX HY HB hB; clear hB)) | (replace HTD := HTD; go_at_call 71; refine (rid_right ic is _).mono ?_; rintro e w3 ⟨he, hB⟩; rw [HO1.out] at he; subst he; (obtain ⟨HX, HY, q0, q1, q2, q3, q4, q5, q6, y0, y1, HB⟩ := rf7 HX HY HB hB; clear hB)) | (go_at_call 71; refine (rid_right tc ts _).mono ?_; rintro e w2 ⟨he, hB⟩; rw [HT1.out] at he; subst he; have HTD := sd True.intro; (obtain ⟨HX, HY, q0, q1, q2, q3, q4, q5, q6, y0, y1, HB⟩ := rf7 HX HY HB hB; clear hB))); go_ret; exact ⟨by rw [HF.out]; rfl, HB.out⟩
  case true =>
   cases bo
   case false =>
    have HF : Hid (rightM ⟨5, tc, ts, ic, is, p, s⟩ = false) := Lib.hid (by simp [rightM, kindOk, asksI, asksP, asksS, HT1.out, HPR.out, HTU.out, HO1.out, HZ0.out, HZ1.out, HZ2.out])
    go_enter Tryd.func41, Tryd.ntmps41
    go_wp2_with (first | (go_at_call 73; refine (rtup_calls _ _ s _ (Kd.C_below HL.out.s HB.out) HS.out.s).mono ?_; rintro e w5 ⟨he, hB⟩; rw [HTU.out] at he; subst he; (obtain ⟨HX, HY, q0, q1, q2, q3, q4, q5, q6, y0, y1, HB⟩ := rf7 HX HY HB hB; clear hB)) | (replace HTD := HTD; go_at_call 71; refine (rid_right ic is _).mono ?_; rintro e w3 ⟨he, hB⟩; rw [HO1.out] at he; subst he; (obtain ⟨HX, HY, q0, q1, q2, q3, q4, q5, q6, y0, y1, HB⟩ := rf7 HX HY HB hB; clear hB)) | (go_at_call 71; refine (rid_right tc ts _).mono ?_; rintro e w2 ⟨he, hB⟩; rw [HT1.out] at he; subst he; have HTD := sd True.intro; (obtain ⟨HX, HY, q0, q1, q2, q3, q4, q5, q6, y0, y1, HB⟩ := rf7 HX HY HB hB; clear hB))); go_ret; exact ⟨by rw [HF.out]; rfl, HB.out⟩
   case true =>
    by_cases p0 : p = []
    case neg =>
     have c2 : 0 < p.length := List.length_pos_iff.2 p0; have c2b : ((p.length : Int) == 0) = false := by simp [p0]
     have HNp := Lib.hid p0; clear p0; have HF : Hid (rightM ⟨5, tc, ts, ic, is, p, s⟩ = false) := Lib.hid (by simp [rightM, kindOk, asksI, asksP, asksS, HT1.out, HPR.out, HTU.out, HO1.out, HZ0.out, HZ1.out, HZ2.out, HNp.out])
     go_enter Tryd.func41, Tryd.ntmps41
     go_wp2_with (first | (go_at_call 73; refine (rtup_calls _ _ s _ (Kd.C_below HL.out.s HB.out) HS.out.s).mono ?_; rintro e w5 ⟨he, hB⟩; rw [HTU.out] at he; subst he; (obtain ⟨HX, HY, q0, q1, q2, q3, q4, q5, q6, y0, y1, HB⟩ := rf7 HX HY HB hB; clear hB)) | (replace HTD := HTD; go_at_call 71; refine (rid_right ic is _).mono ?_; rintro e w3 ⟨he, hB⟩; rw [HO1.out] at he; subst he; (obtain ⟨HX, HY, q0, q1, q2, q3, q4, q5, q6, y0, y1, HB⟩ := rf7 HX HY HB hB; clear hB)) | (go_at_call 71; refine (rid_right tc ts _).mono ?_; rintro e w2 ⟨he, hB⟩; rw [HT1.out] at he; subst he; have HTD := sd True.intro; (obtain ⟨HX, HY, q0, q1, q2, q3, q4, q5, q6, y0, y1, HB⟩ := rf7 HX HY HB hB; clear hB))); go_ret; exact ⟨by rw [HF.out]; rfl, HB.out⟩
    subst p0; cases bs
    case false =>
     have HF : Hid (rightM ⟨5, tc, ts, ic, is, [], s⟩ = false) := Lib.hid (by simp [rightM, kindOk, asksI, asksP, asksS, HT1.out, HPR.out, HTU.out, HO1.out, HZ0.out, HZ1.out, HZ2.out])
     go_enter Tryd.func41, Tryd.ntmps41
     go_wp2_with (first | (go_at_call 73; refine (rtup_calls _ _ s _ (Kd.C_below HL.out.s HB.out) HS.out.s).mono ?_; rintro e w5 ⟨he, hB⟩; rw [HTU.out] at he; subst he; (obtain ⟨HX, HY, q0, q1, q2, q3, q4, q5, q6, y0, y1, HB⟩ := rf7 HX HY HB hB; clear hB)) | (replace HTD := HTD; go_at_call 71; refine (rid_right ic is _).mono ?_; rintro e w3 ⟨he, hB⟩; rw [HO1.out] at he; subst he; (obtain ⟨HX, HY, q0, q1, q2, q3, q4, q5, q6, y0, y1, HB⟩ := rf7 HX HY HB hB; clear hB)) | (go_at_call 71; refine (rid_right tc ts _).mono ?_; rintro e w2 ⟨he, hB⟩; rw [HT1.out] at he; subst he; have HTD := sd True.intro; (obtain ⟨HX, HY, q0, q1, q2, q3, q4, q5, q6, y0, y1, HB⟩ := rf7 HX HY HB hB; clear hB))); go_ret; exact ⟨by rw [HF.out]; rfl, HB.out⟩
    case true =>
     have HF : Hid (rightM ⟨5, tc, ts, ic, is, [], s⟩ = true) := Lib.hid (by simp [rightM, kindOk, asksI, asksP, asksS, HT1.out, HPR.out, HTU.out, HO1.out, HZ0.out, HZ1.out, HZ2.out, HPR.out.symm.trans HZ1.out])
     go_enter Tryd.func41, Tryd.ntmps41
     go_wp2_with (first | (go_at_call 73; refine (rtup_calls _ _ s _ (Kd.C_below HL.out.s HB.out) HS.out.s).mono ?_; rintro e w5 ⟨he, hB⟩; rw [HTU.out] at he; subst he; (obtain ⟨HX, HY, q0, q1, q2, q3, q4, q5, q6, y0, y1, HB⟩ := rf7 HX HY HB hB; clear hB)) | (replace HTD := HTD; go_at_call 71; refine (rid_right ic is _).mono ?_; rintro e w3 ⟨he, hB⟩; rw [HO1.out] at he; subst he; (obtain ⟨HX, HY, q0, q1, q2, q3, q4, q5, q6, y0, y1, HB⟩ := rf7 HX HY HB hB; clear hB)) | (go_at_call 71; refine (rid_right tc ts _).mono ?_; rintro e w2 ⟨he, hB⟩; rw [HT1.out] at he; subst he; have HTD := sd True.intro; (obtain ⟨HX, HY, q0, q1, q2, q3, q4, q5, q6, y0, y1, HB⟩ := rf7 HX HY HB hB; clear hB))); go_ret; exact ⟨by rw [HF.out]; rfl, HB.out⟩
 have n5 : (k == 5) = false := by simp [h5]
 have HK : Hid (kindOk k = false) := Lib.hid (by simp only [kindOk, decide_eq_false_iff_not]; omega); have HF : Hid (rightM ⟨k, tc, ts, ic, is, p, s⟩ = false) := Lib.hid (by simp [rightM, HK.out]); clear h1 h2 h3 h4 h5
 go_enter Tryd.func41, Tryd.ntmps41
 go_wp2; go_ret; exact ⟨by rw [HF.out]; rfl, HB.out⟩
end Go.Proofs.YtbplemhjhpfkgaaDoor.Wr

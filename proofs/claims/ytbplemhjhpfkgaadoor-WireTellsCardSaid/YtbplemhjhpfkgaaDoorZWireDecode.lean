/-
 wire.Decode of any bytes.
-/
import Derived.Test.YtbplemhjhpfkgaaDoorZWireRead
import Derived.Test.YtbplemhjhpfkgaaDoorZWirePut
import Derived.Test.YtbplemhjhpfkgaaDoorZWireWrong
namespace Go.Proofs.YtbplemhjhpfkgaaDoor.Wr
open Go.RowKit YtbplemhjhpfkgaaDoorW.PrintWords YtbplemhjhpfkgaaDoorW.PrintLast YtbplemhjhpfkgaaDoorW.PrintMore Rd
open Go.Proofs.YtbplemhjhpfkgaaDoor.Cd (Co At kCo kAt at_Co at_At eqB_calls)
open Go.Proofs.YtbplemhjhpfkgaaDoor.Ft (Door Chain new_chain kind_calls chain_iface)
set_option linter.unusedVariables false
set_option linter.unusedSimpArgs false
def decM (xs : List Int) : Option MsgD :=
 if (!(readM (xs, false)).2.2 && (readM (xs, false)).2.1.isEmpty) && rightM (readM (xs, false)).1 && decide (msgB (readM (xs, false)).1 = xs) then some (readM (xs, false)).1 else none
abbrev zeroM : MsgD := ⟨0, 0, 0, 0, 0, [], []⟩
def DecM (r : Option MsgD) (n : Nat) (w w' : World) (e : Ending) : Prop :=
 (∀ m, r = some m → ∃ A5 m5 A6 m6, e = .returned (.tuple #[mW m A5 m5 A6 m6, .nilIface]) ∧ LiesM w' m A5 A6 ∧ Past w.heap.size A5 ∧ Past w.heap.size A6) ∧
 (r = none → ∃ u, e = .returned (.tuple #[mW zeroM none 0 none 0, u]) ∧ Chain w' [(wireS, (n : Int))] 1 u) ∧ Below w.heap.size w w'
theorem bytesOf_by (s : ByteArray) : Byt (bytesOf s) := by
 intro x hx; obtain ⟨b, _, rfl⟩ := List.mem_map.1 hx; have := b.toNat_lt; omega
theorem byt_app {xs ys : List Int} (h : Byt xs) (k : Byt ys) : Byt (xs ++ ys) := fun x hx => (List.mem_append.1 hx).elim (h x) (k x)
theorem byt_nil : Byt [] := fun x hx => by cases hx
theorem byt_one (k : Int) : Byt [k % 256] := fun x hx => by obtain rfl := List.mem_singleton.1 hx; omega
theorem byt_be8s (xs : List Int) : Byt (be8s xs) := by
 intro x hx; obtain ⟨y, _, hy⟩ := List.mem_flatMap.1 hx; simp only [be8, byteAt, List.mem_cons, List.not_mem_nil, or_false] at hy; rcases hy with rfl | rfl | rfl | rfl | rfl | rfl | rfl | rfl <;> constructor <;> omega
theorem byt_text8 (s : ByteArray) : Byt (text8 s) := by
 unfold text8
 split
 ·exact byt_nil
 ·intro x hx; rcases List.mem_cons.1 hx with rfl | hx
  ·constructor <;> omega
  ·exact bytesOf_by s x hx
theorem byt_flatMap {α : Type} (f : α → List Int) (h : ∀ x, Byt (f x)) (l : List α) : Byt (l.flatMap f) := by
 intro x hx; obtain ⟨y, _, hy⟩ := List.mem_flatMap.1 hx; exact h y x hy
theorem byt_cW (x : Co) : Byt (cW x) := by
 unfold cW
 split
 ·exact byt_app (byt_app (byt_text8 _) (byt_one _)) (byt_be8s _)
 ·exact byt_app (byt_app (byt_text8 _) (byt_one _)) (byt_text8 _)
theorem byt_aW (x : At) : Byt (aW x) := by
 unfold aW
 split
 ·exact byt_app (byt_text8 _) (byt_app (byt_one 1) (byt_text8 _))
 ·exact byt_app (byt_text8 _) (byt_app (byt_one 0) (byt_be8s _))
theorem byt_msgB (m : MsgD) : Byt (msgB m) := by
 unfold msgB iB pB sB; refine byt_app (byt_app (byt_app (byt_app (byt_one _) (byt_be8s _)) ?_) ?_) ?_
 ·split
  ·exact byt_be8s _
  ·exact byt_nil
 ·split
  ·exact byt_app (byt_one _) (byt_flatMap _ byt_cW _)
  ·exact byt_nil
 ·split
  ·exact byt_app (byt_one _) (byt_flatMap _ byt_aW _)
  ·exact byt_nil
theorem rdB_byt {s : Rs} (hb : Byt s.1) : Byt (rdB s).2.1 := byte1_byt hb _
theorem rdN_byt {s : Rs} (hb : Byt s.1) : Byt (rdN s).2.1 := by
 show Byt (number1 s.1 s.2).2.1
 rw [number1_eq]; exact takes_byt2 hb _ _
theorem rdI_byt {s : Rs} (hb : Byt s.1) : Byt (rdI s).2.1 := rdN_byt (s := (rdN s).2) (rdN_byt hb)
theorem rdCon_byt {s : Rs} (hb : Byt s.1) : Byt (rdCon s).2.1 ∧ (rdCon s).1.1.size ≤ 255 := by
 have h1 : (rdCon s).1.1 = (rdT s).1 := by unfold rdCon; split <;> rfl
 have h2 := rdT_byt (s := s) rfl hb; refine ⟨?_, by rw [h1]; exact rdT_size (s := s) rfl hb⟩; unfold rdCon
 split
 ·exact rdN_byt (rdN_byt (rdB_byt h2))
 ·exact rdT_byt (s := (rdB (rdT s).2).2) rfl (rdB_byt h2)
theorem rdAtt_byt {s : Rs} (hb : Byt s.1) : Byt (rdAtt s).2.1 ∧ (rdAtt s).1.1.size ≤ 255 := by
 have h1 : (rdAtt s).1.1 = (rdT s).1 := by unfold rdAtt; split <;> rfl
 have h2 := rdT_byt (s := s) rfl hb; refine ⟨?_, by rw [h1]; exact rdT_size (s := s) rfl hb⟩; unfold rdAtt
 split
 ·exact rdT_byt (s := (rdB (rdT s).2).2) rfl (rdB_byt h2)
 ·exact rdN_byt (rdB_byt h2)
theorem rdMany_all {α : Type} {f : Rs → α × Rs} {Q : α → Prop} (h : ∀ s : Rs, Byt s.1 → Byt (f s).2.1 ∧ Q (f s).1) : ∀ (k : Nat) (s : Rs) (l : List α), Byt s.1 → (∀ x ∈ l, Q x) → (∀ x ∈ (rdMany f k s l).1, Q x) ∧ Byt (rdMany f k s l).2.1
 | 0, s, l, hb, hl => ⟨hl, hb⟩
 | k + 1, s, l, hb, hl => by
  unfold rdMany
  split
  ·exact ⟨hl, hb⟩
  ·obtain ⟨h1, h2⟩ := h s hb; exact rdMany_all h k (f s).2 (l ++ [(f s).1]) h1 (fun x hx => (List.mem_append.1 hx).elim (hl x) (fun hx => by rw [List.mem_singleton.1 hx]; exact h2))
theorem readM_sm (xs : List Int) (hb : Byt xs) : SmM (readM (xs, false)).1 := by
 have b1 : Byt (rdB (xs, false)).2.1 := rdB_byt hb; have b2 := rdI_byt (s := (rdB (xs, false)).2) b1
 have b3 : Byt (rdOwn (rdB (xs, false)).1 (rdI (rdB (xs, false)).2).2).2.1 := by
  unfold rdOwn
  split
  ·exact rdI_byt b2
  ·exact b2
 have b4 : (∀ x ∈ (rdPs (rdB (xs, false)).1 (rdOwn (rdB (xs, false)).1 (rdI (rdB (xs, false)).2).2).2).1, x.1.size ≤ 255) ∧ Byt (rdPs (rdB (xs, false)).1 (rdOwn (rdB (xs, false)).1 (rdI (rdB (xs, false)).2).2).2).2.1 := by
  unfold rdPs
  split
  ·exact rdMany_all (Q := fun x : Co => x.1.size ≤ 255) (fun s h => rdCon_byt h) _ _ [] (rdB_byt b3) (fun x hx => by cases hx)
  ·exact ⟨fun x hx => (by cases hx), b3⟩
 have b5 : ∀ x ∈ (rdSs (rdB (xs, false)).1 (rdPs (rdB (xs, false)).1 (rdOwn (rdB (xs, false)).1 (rdI (rdB (xs, false)).2).2).2).2).1, x.1.size ≤ 255 := by
  unfold rdSs
  split
  ·exact (rdMany_all (Q := fun x : At => x.1.size ≤ 255) (fun s h => rdAtt_byt h) _ _ [] (rdB_byt b4.2) (fun x hx => by cases hx)).1
  ·exact fun x hx => by cases hx
 exact ⟨fun x hx => Nat.le_trans (b4.1 x hx) (by decide), fun x hx => Nat.le_trans (b5 x hx) (by decide)⟩
theorem chain_keepM {w w1 : World} {b : Nat} {cells : Array Value} (hk : KeepBut w w1 b none) (hb : w.heap[b]? = some (.cells cells 50 (0, 0))) : ∀ {fs : List (ByteArray × Int)} {c : Int} {v : Value}, Chain w fs c v → Chain w1 fs c v
 | [], _, _, hc => hc
 | x :: r, _, _, ⟨g, u, e, hg, hr⟩ => ⟨g, u, e, KeepBut.blk hk hg (by rintro rfl; rw [hb] at hg; simp at hg) (by simp), chain_keepM hk hb hr⟩
set_option maxRecDepth 100000 in
set_option maxHeartbeats 16000000 in
theorem decM_calls (A : Option Addr) (c : Nat) (xs : List Int) (w : World) (hr : Kd.C (Kd.int .u8) w A xs.length xs) (hy : Byt xs) (hm : xs.length ≤ 140737488355328) :
  Calls Tryd.prog 36 #[.slice A xs.length c] w fun e w' => DecM (decM xs) xs.length w w' e := by
 obtain ⟨o, s, e0⟩ : ∃ o s, readM (xs, false) = (o, s) := ⟨_, _, rfl⟩; have HSM : Hid (SmM o) := Lib.hid (by have := readM_sm xs hy; rw [e0] at this; exact this); obtain ⟨d1, hd1⟩ : ∃ d, (!s.2 && s.1.isEmpty) = d := ⟨_, rfl⟩; obtain ⟨d2, hd2⟩ : ∃ d, rightM o = d := ⟨_, rfl⟩; obtain ⟨d3, hd3⟩ : ∃ d, decide (msgB o = xs) = d := ⟨_, rfl⟩; have hdec : decM xs = if d1 && d2 && d3 then some o else none := by unfold decM; rw [e0]; simp only [hd1, hd2, hd3]
 have HPL : Hid (d2 = true → o.p.length ≤ 100000 ∧ o.s.length ≤ 100000) := Lib.hid (fun h => by
  rw [h] at hd2; simp only [rightM, predOk, tupOk, Bool.and_eq_true, decide_eq_true_iff] at hd2; omega)
 obtain ⟨zk, zc, zq, zi, zs, pp, uu⟩ := o; have HD := Lib.hid hdec; generalize decM xs = rr at HD ⊢; clear hdec; have E0 := Lib.hid e0; have D1 := Lib.hid hd1; have D2 := Lib.hid hd2; have D3 : Hid (decide (msgB (⟨zk, zc, zq, zi, zs, pp, uu⟩ : MsgD) = xs) = d3) := Lib.hid hd3; have HY := sd hy; have HR := sd hr; have HWa := sd (below_alloc (Below.refl w.heap.size w) (.cells #[.int .i64 0, .int .i64 0, .int .i64 0, .int .i64 0, .int .i64 0, .slice none 0 0, .slice none 0 0] 50)); have HZ := sd (blk_new w (.cells #[.int .i64 0, .int .i64 0, .int .i64 0, .int .i64 0, .int .i64 0, .slice none 0 0, .slice none 0 0] 50)); clear e0 hd1 hd2 hd3 hr hy
 go_enter Tryd.func36, Tryd.ntmps36
 go_upto_region 1 with fail
 generalize (w.alloc (.cells #[.int .i64 0, .int .i64 0, .int .i64 0, .int .i64 0, .int .i64 0, .slice none 0 0, .slice none 0 0] 50)) = wa at *
 go_upto_region 3 with (first
  | (replace RI := RI; go_at_call 70; have hc := wread_calls g (xs, false) w0 _ RI.out RB.out; rw [E0.out] at hc; refine hc.mono ?_; clear hc; rintro e w2 ⟨A5, m5, A6, m6, rfl, hL, hI, hB, hp5, hp6⟩; have HP5 := sd hp5; have HP6 := sd hp6; have HZ0 := sd (blk_lt HZ.out); have HL := sd (LiesM.below hL (below_alloc (Below.refl w2.heap.size w2) (.cells #[.int .i64 zk, .int .i64 zc, .int .i64 zq, .int .i64 zi, .int .i64 zs, .slice A5 pp.length m5, .slice A6 uu.length m6] 50))); have RJ := sd (IsRd.alloc hI (.cells #[.int .i64 zk, .int .i64 zc, .int .i64 zq, .int .i64 zi, .int .i64 zs, .slice A5 pp.length m5, .slice A6 uu.length m6] 50)); replace HZ := sd (blk_alloc (blk_below HZ.out hB) (.cells #[.int .i64 zk, .int .i64 zc, .int .i64 zq, .int .i64 zi, .int .i64 zs, .slice A5 pp.length m5, .slice A6 uu.length m6] 50)); have HW := sd (below_alloc (below_step HW0.out hB) (.cells #[.int .i64 zk, .int .i64 zc, .int .i64 zq, .int .i64 zi, .int .i64 zs, .slice A5 pp.length m5, .slice A6 uu.length m6] 50)); have HO := sd (blk_new w2 (.cells #[.int .i64 zk, .int .i64 zc, .int .i64 zq, .int .i64 zi, .int .i64 zs, .slice A5 pp.length m5, .slice A6 uu.length m6] 50)); clear hL hI hB hp5 hp6)
  | (go_at_call 63; refine (read_calls A _ xs _ (Kd.C_below HR.out HWa.out) HY.out hm).mono ?_; rintro e w1 ⟨w0, g, rfl, hI, hB0, hB1⟩; have RI := sd hI; have RB := sd hB1; have HW0 := sd (below_step HWa.out hB0); replace HZ := sd (blk_below HZ.out hB0); clear hI hB0 hB1))
 clear RI RB HW0 HWa; generalize (w2.alloc (.cells #[.int .i64 zk, .int .i64 zc, .int .i64 zq, .int .i64 zi, .int .i64 zs, .slice A5 pp.length m5, .slice A6 uu.length m6] 50)) = wb at *; generalize w2.heap.size = bo at *; obtain ⟨bd, hbd⟩ : ∃ bd, (!(d1 && d2 && d3)) = bd := ⟨_, rfl⟩; obtain ⟨ob, hob⟩ : ∃ ob, msgB (⟨zk, zc, zq, zi, zs, pp, uu⟩ : MsgD) = ob := ⟨_, rfl⟩; have HBO : Hid (Byt ob) := Lib.hid (hob ▸ byt_msgB _); have HOB := Lib.hid hob; rw [hob] at D3; clear hob
 go_cut [24] from 10 to 24 (fun v wx => v = .bool bd ∧ Aside0 (wx.heap[bo]? = some (.cells #[.int .i64 zk, .int .i64 zc, .int .i64 zq, .int .i64 zi, .int .i64 zs, .slice A5 pp.length m5, .slice A6 uu.length m6] 50 (0, 0))) ∧ Aside0 (wx.heap[w.heap.size]? = some (.cells #[.int .i64 0, .int .i64 0, .int .i64 0, .int .i64 0, .int .i64 0, .slice none 0 0, .slice none 0 0] 50 (0, 0))) ∧ Aside0 (LiesM wx (⟨zk, zc, zq, zi, zs, pp, uu⟩ : MsgD) A5 A6) ∧ Aside0 (Below w.heap.size w wx))
 case first =>
  obtain ⟨q0, q1, q2, q3, q4, q5, q6⟩ := bl7 HO.out; have hlo := blk_lt HO.out; cases d1 with
  | false =>
   obtain rfl : bd = true := by rw [← hbd]; rfl
   go_wp2_with (go_at_call 65; refine (done_calls g s.1 s.2 w0 _ RJ.out).mono ?_; rintro e w3 ⟨he, rfl⟩; rw [D1.out] at he; subst he); go_meet
   case rel => exact ⟨rfl, HO, HZ, HL, HW⟩
  | true =>
   cases d2 with
   | false =>
    obtain rfl : bd = true := by rw [← hbd]; rfl
    go_wp2_with (first | (replace RJ := RJ; go_at_call 25; refine (right_calls (⟨zk, zc, zq, zi, zs, pp, uu⟩ : MsgD) _ _ _ _ _ HL.out HSM.out).mono ?_; rintro e w4 ⟨he, hB⟩; rw [D2.out] at he; subst he; clear RJ q0 q1 q2 q3 q4 q5 q6 hlo; replace HO := sd (blk_below HO.out hB); replace HZ := sd (blk_below HZ.out hB); replace HL := sd (LiesM.below HL.out hB); replace HW := sd (below_step HW.out hB); obtain ⟨q0, q1, q2, q3, q4, q5, q6⟩ := bl7 HO.out; have hlo := blk_lt HO.out; clear hB) | (go_at_call 65; refine (done_calls g s.1 s.2 w0 _ RJ.out).mono ?_; rintro e w3 ⟨he, rfl⟩; rw [D1.out] at he; subst he)); go_meet
    case rel => exact ⟨rfl, HO, HZ, HL, HW⟩
   | true =>
    cases d3 with
    | false =>
     obtain rfl : bd = true := by rw [← hbd]; rfl
     go_wp2_with (first | (replace HCV := HCV; go_at_call 62; refine (eqB_calls Av cv ob A c xs _ HCV.out (Kd.C_below HR.out HW.out) HBO.out HY.out).mono ?_; rintro e w6 ⟨he, rfl⟩; rw [D3.out] at he; subst he) | (go_at_call 54; refine (wput_calls (⟨zk, zc, zq, zi, zs, pp, uu⟩ : MsgD) _ _ _ _ _ HL.out (HPL.out (by trivial)).1 (HPL.out (by trivial)).2).mono ?_; rintro e w5 ⟨v, rfl, hR, hB⟩; rw [HOB.out] at hR; obtain ⟨Av, cv, rfl, hcv, hCv⟩ := Kd.R_reads hR; have HCV := sd hCv; clear q0 q1 q2 q3 q4 q5 q6 hlo; replace HO := sd (blk_below HO.out hB); replace HZ := sd (blk_below HZ.out hB); replace HL := sd (LiesM.below HL.out hB); replace HW := sd (below_step HW.out hB); clear hB hR hCv) | (replace RJ := RJ; go_at_call 25; refine (right_calls (⟨zk, zc, zq, zi, zs, pp, uu⟩ : MsgD) _ _ _ _ _ HL.out HSM.out).mono ?_; rintro e w4 ⟨he, hB⟩; rw [D2.out] at he; subst he; clear RJ q0 q1 q2 q3 q4 q5 q6 hlo; replace HO := sd (blk_below HO.out hB); replace HZ := sd (blk_below HZ.out hB); replace HL := sd (LiesM.below HL.out hB); replace HW := sd (below_step HW.out hB); obtain ⟨q0, q1, q2, q3, q4, q5, q6⟩ := bl7 HO.out; have hlo := blk_lt HO.out; clear hB) | (go_at_call 65; refine (done_calls g s.1 s.2 w0 _ RJ.out).mono ?_; rintro e w3 ⟨he, rfl⟩; rw [D1.out] at he; subst he)); go_meet
     case rel => exact ⟨rfl, HO, HZ, HL, HW⟩
    | true =>
     obtain rfl : bd = false := by rw [← hbd]; rfl
     go_wp2_with (first | (replace HCV := HCV; go_at_call 62; refine (eqB_calls Av cv ob A c xs _ HCV.out (Kd.C_below HR.out HW.out) HBO.out HY.out).mono ?_; rintro e w6 ⟨he, rfl⟩; rw [D3.out] at he; subst he) | (go_at_call 54; refine (wput_calls (⟨zk, zc, zq, zi, zs, pp, uu⟩ : MsgD) _ _ _ _ _ HL.out (HPL.out (by trivial)).1 (HPL.out (by trivial)).2).mono ?_; rintro e w5 ⟨v, rfl, hR, hB⟩; rw [HOB.out] at hR; obtain ⟨Av, cv, rfl, hcv, hCv⟩ := Kd.R_reads hR; have HCV := sd hCv; clear q0 q1 q2 q3 q4 q5 q6 hlo; replace HO := sd (blk_below HO.out hB); replace HZ := sd (blk_below HZ.out hB); replace HL := sd (LiesM.below HL.out hB); replace HW := sd (below_step HW.out hB); clear hB hR hCv) | (replace RJ := RJ; go_at_call 25; refine (right_calls (⟨zk, zc, zq, zi, zs, pp, uu⟩ : MsgD) _ _ _ _ _ HL.out HSM.out).mono ?_; rintro e w4 ⟨he, hB⟩; rw [D2.out] at he; subst he; clear RJ q0 q1 q2 q3 q4 q5 q6 hlo; replace HO := sd (blk_below HO.out hB); replace HZ := sd (blk_below HZ.out hB); replace HL := sd (LiesM.below HL.out hB); replace HW := sd (below_step HW.out hB); obtain ⟨q0, q1, q2, q3, q4, q5, q6⟩ := bl7 HO.out; have hlo := blk_lt HO.out; clear hB) | (go_at_call 65; refine (done_calls g s.1 s.2 w0 _ RJ.out).mono ?_; rintro e w3 ⟨he, rfl⟩; rw [D1.out] at he; subst he)); go_meet
     case rel => exact ⟨rfl, HO, HZ, HL, HW⟩
 case rest =>
  obtain ⟨rfl, HO, HZ, HL, HW⟩ := hcut; cases bd with
  | true =>
   have hno : (if (d1 && d2 && d3) = true then some (⟨zk, zc, zq, zi, zs, pp, uu⟩ : MsgD) else none) = none := by rw [if_neg]; intro h; rw [h] at hbd; cases hbd
   go_wp2_with (go_at_call 44; refine (new_chain (fs := []) (c := 1) rfl).mono ?_; rintro e w7 ⟨u, rfl, hc, hB⟩; have HC := sd hc; replace HZ := sd (blk_below HZ.out hB); replace HW := sd (below_step HW.out hB); obtain ⟨z0, z1, z2, z3, z4, z5, z6⟩ := bl7 HZ.out; obtain ⟨f0, f1, f2, f3, f4, f5, f6⟩ := fz7 HZ.out; have hlz := blk_lt HZ.out; clear hB hc); obtain ⟨hk9, hb9, hw9⟩ := put7 HZ.out (.int .i64 0) (.int .i64 0) (.int .i64 0) (.int .i64 0) (.int .i64 0) (.slice none 0 0) (.slice none 0 0); have ZE := sd hb9; have WE := sd (hw9 w HW.out (Nat.le_refl _)); have CE := sd (chain_keepM hk9 HZ.out HC.out); clear hk9 hb9 hw9 HW HC z0 f0 z1 f1 z2 f2 z3 f3 z4 f4 z5 f5 z6 f6 hlz HZ; generalize ((((((w7.setCell ⟨w.heap.size, 0, none⟩ (.int .i64 0)).setCell ⟨w.heap.size, 1, none⟩ (.int .i64 0)).setCell ⟨w.heap.size, 2, none⟩ (.int .i64 0)).setCell ⟨w.heap.size, 3, none⟩ (.int .i64 0)).setCell ⟨w.heap.size, 4, none⟩ (.int .i64 0)).setCell ⟨w.heap.size, 5, none⟩ (.slice none 0 0)).setCell ⟨w.heap.size, 6, none⟩ (.slice none 0 0) = wE at ZE WE CE ⊢; obtain ⟨q0, q1, q2, q3, q4, q5, q6⟩ := bl7 ZE.out; refine bodyPost_ret (v := .tuple #[mW zeroM none 0 none 0, u]) (by simp [results, Tryd.results36, go_sem, q0, q1, q2, q3, q4, q5, q6]) rfl ⟨fun o h => (by rw [HD.out, hno] at h; cases h), fun _ => ⟨u, rfl, CE.out⟩, WE.out⟩
  | false =>
   have hyes : (d1 && d2 && d3) = true := by cases h : (d1 && d2 && d3) <;> simp_all
   obtain ⟨q0, q1, q2, q3, q4, q5, q6⟩ := bl7 HO.out; obtain ⟨z0, z1, z2, z3, z4, z5, z6⟩ := bl7 HZ.out; obtain ⟨f0, f1, f2, f3, f4, f5, f6⟩ := fz7 HZ.out; have hlo := blk_lt HO.out; have hlz := blk_lt HZ.out; obtain ⟨hk9, hb9, hw9⟩ := put7 HZ.out (.int .i64 zk) (.int .i64 zc) (.int .i64 zq) (.int .i64 zi) (.int .i64 zs) (.slice A5 pp.length m5) (.slice A6 uu.length m6); have ZE := sd hb9; have WE := sd (hw9 w HW.out (Nat.le_refl _)); have LE := sd (show LiesM _ (⟨zk, zc, zq, zi, zs, pp, uu⟩ : MsgD) A5 A6 from LiesM.keep HL.out hk9 HP5.out HP6.out HZ0.out); clear hk9 hb9 hw9 HW HL; go_wp2; generalize ((((((wc.setCell ⟨w.heap.size, 0, none⟩ (.int .i64 zk)).setCell ⟨w.heap.size, 1, none⟩ (.int .i64 zc)).setCell ⟨w.heap.size, 2, none⟩ (.int .i64 zq)).setCell ⟨w.heap.size, 3, none⟩ (.int .i64 zi)).setCell ⟨w.heap.size, 4, none⟩ (.int .i64 zs)).setCell ⟨w.heap.size, 5, none⟩ (.slice A5 pp.length m5)).setCell ⟨w.heap.size, 6, none⟩ (.slice A6 uu.length m6) = wE at ZE WE LE ⊢; clear q0 q1 q2 q3 q4 q5 q6 z0 f0 z1 f1 z2 f2 z3 f3 z4 f4 z5 f5 z6 f6 hlo hlz HO HZ; obtain ⟨q0, q1, q2, q3, q4, q5, q6⟩ := bl7 ZE.out; refine bodyPost_ret (v := .tuple #[mW (⟨zk, zc, zq, zi, zs, pp, uu⟩ : MsgD) A5 m5 A6 m6, .nilIface]) (by simp [results, Tryd.results36, go_sem, q0, q1, q2, q3, q4, q5, q6]) rfl ⟨fun o h => ?_, fun h => (by rw [HD.out, if_pos hyes] at h; cases h), WE.out⟩; rw [HD.out, if_pos hyes] at h; obtain rfl := Option.some.inj h; exact ⟨A5, m5, A6, m6, rfl, LE.out, HP5.out.le (Nat.le_of_lt HZ0.out), HP6.out.le (Nat.le_of_lt HZ0.out)⟩
end Go.Proofs.YtbplemhjhpfkgaaDoor.Wr

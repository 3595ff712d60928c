/-
 code.Decode of any bytes.
-/
import Derived.Test.YtbplemhjhpfkgaaDoorYRead
import Derived.Test.YtbplemhjhpfkgaaDoorYPart16
import Derived.Lib.Hide
import Derived.Maps.OwnOps
import Derived.Maps.Views
import Derived.DeepKeys5
import Derived.OpenShut
import Derived.WalkArith
import Derived.Test.YtbplemhjhpfkgaaDoorYPart6
import Derived.Deep.Slices
import Derived.ChangeArms
import Derived.Lib.SmallJoins
import Derived.Test.YtbplemhjhpfkgaaDoorYBookSame
set_option linter.unusedVariables false
set_option linter.unusedSimpArgs false
namespace Go.Proofs.YtbplemhjhpfkgaaDoor.Cd
open Go.RowKit YtbplemhjhpfkgaaDoorW.PrintWords YtbplemhjhpfkgaaDoorW.PrintLast YtbplemhjhpfkgaaDoorW.PrintMore Rd
open Go.Proofs.YtbplemhjhpfkgaaDoor.Ft (Door Chain new_chain kind_calls chain_iface)
abbrev oBy (o : OpD) : List Int := opB o.k o.c o.q o.h o.a o.t o.p o.s o.r
def decD (xs : List Int) : Option OpD :=
 if (!(readD (xs, false)).2.2 && (readD (xs, false)).2.1.isEmpty) && rightD (readD (xs, false)).1 && decide (oBy (readD (xs, false)).1 = xs) then some (readD (xs, false)).1 else none
def DecOut (r : Option OpD) (n : Nat) (w w' : World) (e : Ending) : Prop :=
 (∀ o, r = some o → ∃ A6 m6 A7 m7 A8 m8, e = .returned (.tuple #[oW o A6 m6 A7 m7 A8 m8, .nilIface]) ∧ Lies w' o A6 A7 A8 ∧ Past w.heap.size A6 ∧ Past w.heap.size A7 ∧ Past w.heap.size A8) ∧
 (r = none → ∃ u, e = .returned (.tuple #[opV 0 0 0 0 0 0 none 0 0 none 0 0 none 0 0, u]) ∧ Chain w' [(⟨#[99, 111, 100, 101]⟩, (n : Int))] 1 u) ∧ Below w.heap.size w w'
theorem bytesOf_by (s : ByteArray) : Byt (bytesOf s) := by
 intro x hx; obtain ⟨b, _, rfl⟩ := List.mem_map.1 hx; have := b.toNat_lt; omega
theorem readD_byt (s : Rs) : Byt (readD s).1.r := bytesOf_by _
theorem byt_app {xs ys : List Int} (h : Byt xs) (k : Byt ys) : Byt (xs ++ ys) := fun x hx => (List.mem_append.1 hx).elim (h x) (k x)
theorem byt_one (k : Int) : Byt [k % 256] := fun x hx => by obtain rfl := List.mem_singleton.1 hx; omega
theorem byt_be8s (xs : List Int) : Byt (be8s xs) := by
 intro x hx; obtain ⟨y, _, hy⟩ := List.mem_flatMap.1 hx; simp only [be8, byteAt, List.mem_cons, List.not_mem_nil, or_false] at hy; rcases hy with rfl | rfl | rfl | rfl | rfl | rfl | rfl | rfl <;> constructor <;> omega
theorem byt_text8 (s : ByteArray) : Byt (text8 s) := by
 unfold text8
 split
 ·exact fun x hx => by cases hx
 ·intro x hx; rcases List.mem_cons.1 hx with rfl | hx
  ·constructor <;> omega
  ·exact bytesOf_by s x hx
theorem byt_fl (b : Bool) : Byt [fl b] := by
 intro x hx; obtain rfl := List.mem_singleton.1 hx; cases b <;> simp [fl]
theorem byt_flatMap {α : Type} (f : α → List Int) (h : ∀ x, Byt (f x)) (l : List α) : Byt (l.flatMap f) := by
 intro x hx; obtain ⟨y, _, hy⟩ := List.mem_flatMap.1 hx; exact h y x hy
theorem byt_cB (x : Co) : Byt (cB x) := byt_app (byt_app (byt_app (byt_text8 _) (byt_one _)) (byt_be8s _)) (byt_text8 _)
theorem byt_aB (x : At) : Byt (aB x) := byt_app (byt_app (byt_app (byt_text8 _) (byt_fl _)) (byt_be8s _)) (byt_text8 _)
theorem byt_opB (k c q h a t : Int) (p : List Co) (s : List At) (r : List Int) : Byt (opB k c q h a t p s r) := by
 unfold opB; exact byt_app (byt_app (byt_app (byt_app (byt_app (byt_app (byt_one _) (byt_be8s _)) (byt_one _)) (byt_flatMap _ byt_cB _)) (byt_one _)) (byt_flatMap _ byt_aB _)) (byt_text8 _)
theorem chain_keep {w w1 : World} {b : Nat} {cells : Array Value} (hk : KeepBut w w1 b none) (hb : w.heap[b]? = some (.cells cells 30 (0, 0))) : ∀ {fs : List (ByteArray × Int)} {c : Int} {v : Value}, Chain w fs c v → Chain w1 fs c v
 | [], _, _, hc => hc
 | x :: r, _, _, ⟨g, u, e, hg, hr⟩ => ⟨g, u, e, KeepBut.blk hk hg (by rintro rfl; rw [hb] at hg; simp at hg) (by simp), chain_keep hk hb hr⟩
set_option maxRecDepth 100000 in
set_option maxHeartbeats 16000000 in
theorem decode_calls (A : Option Addr) (c : Nat) (xs : List Int) (w : World) (hr : Kd.C (Kd.int .u8) w A xs.length xs) (hy : Byt xs) (hm : xs.length ≤ 140737488355328) :
  Calls Tryd.prog 31 #[.slice A xs.length c] w fun e w' => DecOut (decD xs) xs.length w w' e := by
 obtain ⟨o, s, e0⟩ : ∃ o s, readD (xs, false) = (o, s) := ⟨_, _, rfl⟩; have HBR : Hid (Byt o.r) := Lib.hid (by have := readD_byt (xs, false); rw [e0] at this; exact this); obtain ⟨d1, hd1⟩ : ∃ d, (!s.2 && s.1.isEmpty) = d := ⟨_, rfl⟩; obtain ⟨d2, hd2⟩ : ∃ d, rightD o = d := ⟨_, rfl⟩; obtain ⟨d3, hd3⟩ : ∃ d, decide (oBy o = xs) = d := ⟨_, rfl⟩; have hdec : decD xs = if d1 && d2 && d3 then some o else none := by unfold decD; rw [e0]; simp only [hd1, hd2, hd3]
 obtain ⟨zk, zc, zq, zh, za, zt, zp, zs, zr⟩ := o; have HD := Lib.hid hdec; generalize decD xs = rr at HD ⊢; clear hdec; have E0 := Lib.hid e0; have D1 := Lib.hid hd1; have D2 := Lib.hid hd2; have D3 : Hid (decide (opB zk zc zq zh za zt zp zs zr = xs) = d3) := Lib.hid hd3
 have HPL : Hid (d2 = true → zp.length ≤ 200 ∧ zs.length ≤ 200) := Lib.hid (fun h => by
  rw [h] at hd2; simp only [rightD, Bool.and_eq_true, decide_eq_true_iff] at hd2; omega)
 have HY := sd hy; have HR := sd hr; have HWa := sd (below_alloc (Below.refl w.heap.size w) (.cells #[.int .i64 0, .int .i64 0, .int .i64 0, .int .i64 0, .int .i64 0, .int .i64 0, .slice none 0 0, .slice none 0 0, .slice none 0 0] 30)); have HZ := sd (blk_new w (.cells #[.int .i64 0, .int .i64 0, .int .i64 0, .int .i64 0, .int .i64 0, .int .i64 0, .slice none 0 0, .slice none 0 0, .slice none 0 0] 30)); clear e0 hd1 hd2 hd3 hr hy
 go_enter Tryd.func31, Tryd.ntmps31
 go_upto_region 1 with fail
 generalize (w.alloc (.cells #[.int .i64 0, .int .i64 0, .int .i64 0, .int .i64 0, .int .i64 0, .int .i64 0, .slice none 0 0, .slice none 0 0, .slice none 0 0] 30)) = wa at *
 go_upto_region 3 with (first
  | (replace RI := RI; go_at_call 64; have hc := read_one g (xs, false) w0 _ RI.out RB.out; rw [E0.out] at hc; refine hc.mono ?_; clear hc; rintro e w2 ⟨A6, m6, A7, m7, A8, m8, rfl, hL, hI, hB, hp6, hp7, hp8⟩; have HP6 := sd hp6; have HP7 := sd hp7; have HP8 := sd hp8; have HZ0 := sd (blk_lt HZ.out); have HL := sd (Lies.below hL (below_alloc (Below.refl w2.heap.size w2) (.cells #[.int .i64 zk, .int .i64 zc, .int .i64 zq, .int .i64 zh, .int .i64 za, .int .i64 zt, .slice A6 zp.length m6, .slice A7 zs.length m7, .slice A8 zr.length m8] 30))); have RJ := sd (IsRd.alloc hI (.cells #[.int .i64 zk, .int .i64 zc, .int .i64 zq, .int .i64 zh, .int .i64 za, .int .i64 zt, .slice A6 zp.length m6, .slice A7 zs.length m7, .slice A8 zr.length m8] 30)); replace HZ := sd (blk_alloc (blk_below HZ.out hB) (.cells #[.int .i64 zk, .int .i64 zc, .int .i64 zq, .int .i64 zh, .int .i64 za, .int .i64 zt, .slice A6 zp.length m6, .slice A7 zs.length m7, .slice A8 zr.length m8] 30)); have HW := sd (below_alloc (below_step HW0.out hB) (.cells #[.int .i64 zk, .int .i64 zc, .int .i64 zq, .int .i64 zh, .int .i64 za, .int .i64 zt, .slice A6 zp.length m6, .slice A7 zs.length m7, .slice A8 zr.length m8] 30)); have HO := sd (blk_new w2 (.cells #[.int .i64 zk, .int .i64 zc, .int .i64 zq, .int .i64 zh, .int .i64 za, .int .i64 zt, .slice A6 zp.length m6, .slice A7 zs.length m7, .slice A8 zr.length m8] 30)); clear hL hI hB hp6 hp7 hp8)
  | (go_at_call 63; refine (read_calls A _ xs _ (Kd.C_below HR.out HWa.out) HY.out hm).mono ?_; rintro e w1 ⟨w0, g, rfl, hI, hB0, hB1⟩; have RI := sd hI; have RB := sd hB1; have HW0 := sd (below_step HWa.out hB0); replace HZ := sd (blk_below HZ.out hB0); clear hI hB0 hB1))
 clear RI RB HW0 HWa; generalize (w2.alloc (.cells #[.int .i64 zk, .int .i64 zc, .int .i64 zq, .int .i64 zh, .int .i64 za, .int .i64 zt, .slice A6 zp.length m6, .slice A7 zs.length m7, .slice A8 zr.length m8] 30)) = wb at *; generalize w2.heap.size = bo at *; obtain ⟨bd, hbd⟩ : ∃ bd, (!(d1 && d2 && d3)) = bd := ⟨_, rfl⟩; obtain ⟨ob, hob⟩ : ∃ ob, opB zk zc zq zh za zt zp zs zr = ob := ⟨_, rfl⟩; have HBO : Hid (Byt ob) := Lib.hid (hob ▸ byt_opB _ _ _ _ _ _ _ _ _); have HOB := Lib.hid hob; rw [hob] at D3; clear hob
 go_cut [24] from 10 to 24 (fun v wx => v = .bool bd ∧ Aside0 (wx.heap[bo]? = some (.cells #[.int .i64 zk, .int .i64 zc, .int .i64 zq, .int .i64 zh, .int .i64 za, .int .i64 zt, .slice A6 zp.length m6, .slice A7 zs.length m7, .slice A8 zr.length m8] 30 (0, 0))) ∧ Aside0 (wx.heap[w.heap.size]? = some (.cells #[.int .i64 0, .int .i64 0, .int .i64 0, .int .i64 0, .int .i64 0, .int .i64 0, .slice none 0 0, .slice none 0 0, .slice none 0 0] 30 (0, 0))) ∧ Aside0 (Lies wx (⟨zk, zc, zq, zh, za, zt, zp, zs, zr⟩ : OpD) A6 A7 A8) ∧ Aside0 (Below w.heap.size w wx))
 case first =>
  obtain ⟨q0, q1, q2, q3, q4, q5, q6, q7, q8⟩ := bl9 HO.out; have hlo := blk_lt HO.out; cases d1 with
  | false =>
   obtain rfl : bd = true := by rw [← hbd]; rfl
   go_wp2_with (go_at_call 65; refine (done_calls g s.1 s.2 w0 _ RJ.out).mono ?_; rintro e w3 ⟨he, rfl⟩; rw [D1.out] at he; subst he); go_meet
   case rel => exact ⟨rfl, HO, HZ, HL, HW⟩
  | true =>
   cases d2 with
   | false =>
    obtain rfl : bd = true := by rw [← hbd]; rfl
    go_wp2_with (first | (replace RJ := RJ; go_at_call 20; refine (right_calls (⟨zk, zc, zq, zh, za, zt, zp, zs, zr⟩ : OpD) _ _ _ _ _ _ _ HL.out HBR.out).mono ?_; rintro e w4 ⟨he, hB⟩; rw [D2.out] at he; subst he; clear RJ q0 q1 q2 q3 q4 q5 q6 q7 q8 hlo; replace HO := sd (blk_below HO.out hB); replace HZ := sd (blk_below HZ.out hB); replace HL := sd (Lies.below HL.out hB); replace HW := sd (below_step HW.out hB); obtain ⟨q0, q1, q2, q3, q4, q5, q6, q7, q8⟩ := bl9 HO.out; have hlo := blk_lt HO.out; clear hB) | (go_at_call 65; refine (done_calls g s.1 s.2 w0 _ RJ.out).mono ?_; rintro e w3 ⟨he, rfl⟩; rw [D1.out] at he; subst he)); go_meet
    case rel => exact ⟨rfl, HO, HZ, HL, HW⟩
   | true =>
    cases d3 with
    | false =>
     obtain rfl : bd = true := by rw [← hbd]; rfl
     go_wp2_with (first | (replace HCV := HCV; go_at_call 62; refine (eqB_calls Av cv ob A c xs _ HCV.out (Kd.C_below HR.out HW.out) HBO.out HY.out).mono ?_; rintro e w6 ⟨he, rfl⟩; rw [D3.out] at he; subst he) | (go_at_call 45; refine (put_calls zk zc zq zh za zt _ _ zp _ _ zs _ _ zr _ HL.out.p HL.out.s HL.out.r (by have := (HPL.out (by trivial)).1; omega) (by have := (HPL.out (by trivial)).2; omega)).mono ?_; rintro e w5 ⟨v, rfl, hR, hB⟩; rw [HOB.out] at hR; obtain ⟨Av, cv, rfl, hcv, hCv⟩ := Kd.R_reads hR; have HCV := sd hCv; clear q0 q1 q2 q3 q4 q5 q6 q7 q8 hlo; replace HO := sd (blk_below HO.out hB); replace HZ := sd (blk_below HZ.out hB); replace HL := sd (Lies.below HL.out hB); replace HW := sd (below_step HW.out hB); clear hB hR hCv) | (replace RJ := RJ; go_at_call 20; refine (right_calls (⟨zk, zc, zq, zh, za, zt, zp, zs, zr⟩ : OpD) _ _ _ _ _ _ _ HL.out HBR.out).mono ?_; rintro e w4 ⟨he, hB⟩; rw [D2.out] at he; subst he; clear RJ q0 q1 q2 q3 q4 q5 q6 q7 q8 hlo; replace HO := sd (blk_below HO.out hB); replace HZ := sd (blk_below HZ.out hB); replace HL := sd (Lies.below HL.out hB); replace HW := sd (below_step HW.out hB); obtain ⟨q0, q1, q2, q3, q4, q5, q6, q7, q8⟩ := bl9 HO.out; have hlo := blk_lt HO.out; clear hB) | (go_at_call 65; refine (done_calls g s.1 s.2 w0 _ RJ.out).mono ?_; rintro e w3 ⟨he, rfl⟩; rw [D1.out] at he; subst he)); go_meet
     case rel => exact ⟨rfl, HO, HZ, HL, HW⟩
    | true =>
     obtain rfl : bd = false := by rw [← hbd]; rfl
     go_wp2_with (first | (replace HCV := HCV; go_at_call 62; refine (eqB_calls Av cv ob A c xs _ HCV.out (Kd.C_below HR.out HW.out) HBO.out HY.out).mono ?_; rintro e w6 ⟨he, rfl⟩; rw [D3.out] at he; subst he) | (go_at_call 45; refine (put_calls zk zc zq zh za zt _ _ zp _ _ zs _ _ zr _ HL.out.p HL.out.s HL.out.r (by have := (HPL.out (by trivial)).1; omega) (by have := (HPL.out (by trivial)).2; omega)).mono ?_; rintro e w5 ⟨v, rfl, hR, hB⟩; rw [HOB.out] at hR; obtain ⟨Av, cv, rfl, hcv, hCv⟩ := Kd.R_reads hR; have HCV := sd hCv; clear q0 q1 q2 q3 q4 q5 q6 q7 q8 hlo; replace HO := sd (blk_below HO.out hB); replace HZ := sd (blk_below HZ.out hB); replace HL := sd (Lies.below HL.out hB); replace HW := sd (below_step HW.out hB); clear hB hR hCv) | (replace RJ := RJ; go_at_call 20; refine (right_calls (⟨zk, zc, zq, zh, za, zt, zp, zs, zr⟩ : OpD) _ _ _ _ _ _ _ HL.out HBR.out).mono ?_; rintro e w4 ⟨he, hB⟩; rw [D2.out] at he; subst he; clear RJ q0 q1 q2 q3 q4 q5 q6 q7 q8 hlo; replace HO := sd (blk_below HO.out hB); replace HZ := sd (blk_below HZ.out hB); replace HL := sd (Lies.below HL.out hB); replace HW := sd (below_step HW.out hB); obtain ⟨q0, q1, q2, q3, q4, q5, q6, q7, q8⟩ := bl9 HO.out; have hlo := blk_lt HO.out; clear hB) | (go_at_call 65; refine (done_calls g s.1 s.2 w0 _ RJ.out).mono ?_; rintro e w3 ⟨he, rfl⟩; rw [D1.out] at he; subst he)); go_meet
     case rel => exact ⟨rfl, HO, HZ, HL, HW⟩
 case rest =>
  obtain ⟨rfl, HO, HZ, HL, HW⟩ := hcut; cases bd with
  | true =>
   have hno : (if (d1 && d2 && d3) = true then some (⟨zk, zc, zq, zh, za, zt, zp, zs, zr⟩ : OpD) else none) = none := by rw [if_neg]; intro h; rw [h] at hbd; cases hbd
   go_wp2_with (go_at_call 44; refine (new_chain (fs := []) (c := 1) rfl).mono ?_; rintro e w7 ⟨u, rfl, hc, hB⟩; have HC := sd hc; replace HZ := sd (blk_below HZ.out hB); replace HW := sd (below_step HW.out hB); obtain ⟨z0, z1, z2, z3, z4, z5, z6, z7, z8⟩ := bl9 HZ.out; obtain ⟨f0, f1, f2, f3, f4, f5, f6, f7, f8⟩ := fz9 HZ.out; have hlz := blk_lt HZ.out; clear hB hc); obtain ⟨hk9, hb9, hw9⟩ := put9 HZ.out (.int .i64 0) (.int .i64 0) (.int .i64 0) (.int .i64 0) (.int .i64 0) (.int .i64 0) (.slice none 0 0) (.slice none 0 0) (.slice none 0 0); have ZE := sd hb9; have WE := sd (hw9 w HW.out (Nat.le_refl _)); have CE := sd (chain_keep hk9 HZ.out HC.out); clear hk9 hb9 hw9 HW HC z0 f0 z1 f1 z2 f2 z3 f3 z4 f4 z5 f5 z6 f6 z7 f7 z8 f8 hlz HZ; generalize (((((((((w7.setCell ⟨w.heap.size, 0, none⟩ (.int .i64 0)).setCell ⟨w.heap.size, 1, none⟩ (.int .i64 0)).setCell ⟨w.heap.size, 2, none⟩ (.int .i64 0)).setCell ⟨w.heap.size, 3, none⟩ (.int .i64 0)).setCell ⟨w.heap.size, 4, none⟩ (.int .i64 0)).setCell ⟨w.heap.size, 5, none⟩ (.int .i64 0)).setCell ⟨w.heap.size, 6, none⟩ (.slice none 0 0)).setCell ⟨w.heap.size, 7, none⟩ (.slice none 0 0)).setCell ⟨w.heap.size, 8, none⟩ (.slice none 0 0)) = wE at ZE WE CE ⊢; obtain ⟨q0, q1, q2, q3, q4, q5, q6, q7, q8⟩ := bl9 ZE.out; refine bodyPost_ret (v := .tuple #[opV 0 0 0 0 0 0 none 0 0 none 0 0 none 0 0, u]) (by simp [results, Tryd.results31, go_sem, q0, q1, q2, q3, q4, q5, q6, q7, q8]) rfl ⟨fun o h => (by rw [HD.out, hno] at h; cases h), fun _ => ⟨u, rfl, CE.out⟩, WE.out⟩
  | false =>
   have hyes : (d1 && d2 && d3) = true := by cases h : (d1 && d2 && d3) <;> simp_all
   obtain ⟨q0, q1, q2, q3, q4, q5, q6, q7, q8⟩ := bl9 HO.out; obtain ⟨z0, z1, z2, z3, z4, z5, z6, z7, z8⟩ := bl9 HZ.out; obtain ⟨f0, f1, f2, f3, f4, f5, f6, f7, f8⟩ := fz9 HZ.out; have hlo := blk_lt HO.out; have hlz := blk_lt HZ.out; obtain ⟨hk9, hb9, hw9⟩ := put9 HZ.out (.int .i64 zk) (.int .i64 zc) (.int .i64 zq) (.int .i64 zh) (.int .i64 za) (.int .i64 zt) (.slice A6 zp.length m6) (.slice A7 zs.length m7) (.slice A8 zr.length m8); have ZE := sd hb9; have WE := sd (hw9 w HW.out (Nat.le_refl _)); have LE := sd (show Lies _ (⟨zk, zc, zq, zh, za, zt, zp, zs, zr⟩ : OpD) A6 A7 A8 from Lies.keep HL.out hk9 HP6.out HP7.out HP8.out HZ0.out); clear hk9 hb9 hw9 HW HL; go_wp2; generalize (((((((((wc.setCell ⟨w.heap.size, 0, none⟩ (.int .i64 zk)).setCell ⟨w.heap.size, 1, none⟩ (.int .i64 zc)).setCell ⟨w.heap.size, 2, none⟩ (.int .i64 zq)).setCell ⟨w.heap.size, 3, none⟩ (.int .i64 zh)).setCell ⟨w.heap.size, 4, none⟩ (.int .i64 za)).setCell ⟨w.heap.size, 5, none⟩ (.int .i64 zt)).setCell ⟨w.heap.size, 6, none⟩ (.slice A6 zp.length m6)).setCell ⟨w.heap.size, 7, none⟩ (.slice A7 zs.length m7)).setCell ⟨w.heap.size, 8, none⟩ (.slice A8 zr.length m8)) = wE at ZE WE LE ⊢; clear q0 q1 q2 q3 q4 q5 q6 q7 q8 z0 f0 z1 f1 z2 f2 z3 f3 z4 f4 z5 f5 z6 f6 z7 f7 z8 f8 hlo hlz HO HZ; obtain ⟨q0, q1, q2, q3, q4, q5, q6, q7, q8⟩ := bl9 ZE.out; refine bodyPost_ret (v := .tuple #[opV zk zc zq zh za zt A6 zp.length m6 A7 zs.length m7 A8 zr.length m8, .nilIface]) (by simp [results, Tryd.results31, go_sem, q0, q1, q2, q3, q4, q5, q6, q7, q8]) rfl ⟨fun o h => ?_, fun h => (by rw [HD.out, if_pos hyes] at h; cases h), WE.out⟩; rw [HD.out, if_pos hyes] at h; obtain rfl := Option.some.inj h; exact ⟨A6, m6, A7, m7, A8, m8, rfl, LE.out, HP6.out.le (Nat.le_of_lt HZ0.out), HP7.out.le (Nat.le_of_lt HZ0.out), HP8.out.le (Nat.le_of_lt HZ0.out)⟩
end Go.Proofs.YtbplemhjhpfkgaaDoor.Cd
namespace Go.Proofs.YtbplemhjhpfkgaaDoor.Cd
open Go.RowKit YtbplemhjhpfkgaaDoorW.PrintWords YtbplemhjhpfkgaaDoorW.PrintLast YtbplemhjhpfkgaaDoorW.PrintMore Rd
abbrev Pl := Option Addr × Nat
abbrev OpX := OpD × Pl × Pl × Pl
def opCells (x : OpX) : List Value := [.int .i64 x.1.k, .int .i64 x.1.c, .int .i64 x.1.q, .int .i64 x.1.h, .int .i64 x.1.a, .int .i64 x.1.t, .slice x.2.1.1 x.1.p.length x.2.1.2, .slice x.2.2.1.1 x.1.s.length x.2.2.1.2, .slice x.2.2.2.1 x.1.r.length x.2.2.2.2]
def kOp : Kd OpX := flat 9 opCells (fun _ => rfl) (by intro x u hu; simp [opCells] at hu; rcases hu with rfl | rfl | rfl | rfl | rfl | rfl | rfl | rfl | rfl <;> rfl)
abbrev LiesX (w : World) (x : OpX) : Prop := Lies w x.1 x.2.1.1 x.2.2.1.1 x.2.2.2.1
abbrev PastX (n : Nat) (x : OpX) : Prop := Past n x.2.1.1 ∧ Past n x.2.2.1.1 ∧ Past n x.2.2.2.1
abbrev oX (x : OpX) : Value := oW x.1 x.2.1.1 x.2.1.2 x.2.2.1.1 x.2.2.1.2 x.2.2.2.1 x.2.2.2.2
theorem at_Op {w : World} {A : Option Addr} {n : Nat} {xs : List OpX} (h : Kd.C kOp w A n xs) (i : Nat) (h1 : i < n) : ∃ (ad : Addr) (x : OpX), A = some ad ∧ xs[i]? = some x ∧ w.cell? (ad.add (i * 9)) = some (.int .i64 x.1.k) ∧ w.cell? ⟨(ad.add (i * 9)).block, (ad.add (i * 9)).off + 1, none⟩ = some (.int .i64 x.1.c) ∧ w.cell? ⟨(ad.add (i * 9)).block, (ad.add (i * 9)).off + 2, none⟩ = some (.int .i64 x.1.q) ∧ w.cell? ⟨(ad.add (i * 9)).block, (ad.add (i * 9)).off + 3, none⟩ = some (.int .i64 x.1.h) ∧ w.cell? ⟨(ad.add (i * 9)).block, (ad.add (i * 9)).off + 4, none⟩ = some (.int .i64 x.1.a) ∧ w.cell? ⟨(ad.add (i * 9)).block, (ad.add (i * 9)).off + 5, none⟩ = some (.int .i64 x.1.t) ∧ w.cell? ⟨(ad.add (i * 9)).block, (ad.add (i * 9)).off + 6, none⟩ = some (.slice x.2.1.1 x.1.p.length x.2.1.2) ∧ w.cell? ⟨(ad.add (i * 9)).block, (ad.add (i * 9)).off + 7, none⟩ = some (.slice x.2.2.1.1 x.1.s.length x.2.2.1.2) ∧ w.cell? ⟨(ad.add (i * 9)).block, (ad.add (i * 9)).off + 8, none⟩ = some (.slice x.2.2.2.1 x.1.r.length x.2.2.2.2) := by
 obtain ⟨ad, e, hc⟩ := h.2.2 (by omega); have hl : i < xs.length := by have := h.1; omega
 obtain ⟨c, hs, hr, hcell⟩ := hc i _ (List.getElem?_eq_getElem hl); have hr' : c = [Value.int .i64 xs[i].1.k, .int .i64 xs[i].1.c, .int .i64 xs[i].1.q, .int .i64 xs[i].1.h, .int .i64 xs[i].1.a, .int .i64 xs[i].1.t, .slice xs[i].2.1.1 xs[i].1.p.length xs[i].2.1.2, .slice xs[i].2.2.1.1 xs[i].1.s.length xs[i].2.2.1.2, .slice xs[i].2.2.2.1 xs[i].1.r.length xs[i].2.2.2.2] := hr; subst hr'; have hcell' : ∀ j u, ([Value.int .i64 xs[i].1.k, .int .i64 xs[i].1.c, .int .i64 xs[i].1.q, .int .i64 xs[i].1.h, .int .i64 xs[i].1.a, .int .i64 xs[i].1.t, .slice xs[i].2.1.1 xs[i].1.p.length xs[i].2.1.2, .slice xs[i].2.2.1.1 xs[i].1.s.length xs[i].2.2.1.2, .slice xs[i].2.2.2.1 xs[i].1.r.length xs[i].2.2.2.2])[j]? = some u → w.cell? (ad.add (i * 9 + j)) = some u := hcell; exact ⟨ad, xs[i], e, List.getElem?_eq_getElem hl, hcell' 0 _ rfl, by rw [← add_field _ _ 1 (by omega)]; exact hcell' 1 _ rfl, by rw [← add_field _ _ 2 (by omega)]; exact hcell' 2 _ rfl, by rw [← add_field _ _ 3 (by omega)]; exact hcell' 3 _ rfl, by rw [← add_field _ _ 4 (by omega)]; exact hcell' 4 _ rfl, by rw [← add_field _ _ 5 (by omega)]; exact hcell' 5 _ rfl, by rw [← add_field _ _ 6 (by omega)]; exact hcell' 6 _ rfl, by rw [← add_field _ _ 7 (by omega)]; exact hcell' 7 _ rfl, by rw [← add_field _ _ 8 (by omega)]; exact hcell' 8 _ rfl⟩
theorem infoOp : (Tryd.prog.info? 30).map (fun i => (i.zero, i.size, i.bytes)) = some (some (.agg #[(.int .i64 0), (.int .i64 0), (.int .i64 0), (.int .i64 0), (.int .i64 0), (.int .i64 0), (.slice none 0 0), (.slice none 0 0), (.slice none 0 0)]), 9, 120) := by kernel_rfl
def sB (x : OpD) : List Int := be8 ((oBy x).length : Int) ++ oBy x
theorem oBy_le {o : OpD} (h : rightD o = true) : (oBy o).length ≤ 300000 := by
 simp only [rightD, Bool.and_eq_true, decide_eq_true_iff] at h; obtain ⟨⟨⟨_, hp, hs, hr⟩, _⟩, _⟩ := h; have h1 := flatMap_le cB 529 cB_le o.p; have h2 := flatMap_le aB 521 aB_le o.s; have h3 := text8_le (strOfNums o.r); simp only [oBy, opB, List.length_append, List.length_cons, List.length_nil, be8s_len]; omega
theorem sB_le {o : OpD} (h : rightD o = true) : (sB o).length ≤ 300008 := by
 have := oBy_le h; simp only [sB, List.length_append, be8_len]; omega
def Off (row : Option Nat) (A : Option Addr) (n : Nat) : Prop := ∀ ad, A = some ad → 0 < n → some ad.block ≠ row
theorem C_lt {α : Type} {d : Kd α} (hs : 0 < d.sz) {w : World} {A : Option Addr} {n : Nat} {xs : List α} (h : Kd.C d w A n xs) : ∀ ad, A = some ad → 0 < n → ad.block < w.heap.size := by
 intro ad e hn; obtain ⟨ad', e', hc⟩ := h.2.2 hn; obtain rfl : ad = ad' := Option.some.inj (e.symm.trans e'); have hl : 0 < xs.length := by have := h.1; omega
 obtain ⟨cs, hlen, _, hcell⟩ := hc 0 _ (List.getElem?_eq_getElem hl); have h0 : 0 < cs.length := by omega
 have := World.block_lt_of_cell? w _ (hcell 0 _ (List.getElem?_eq_getElem h0))
 rwa [add_block] at this
theorem C_grownF {α : Type} {d : Kd α} (hK : ∀ W W' x cs, d.K W x cs → d.K W' x cs) {w w1 : World} {A : Option Addr} {n : Nat} {xs : List α} {row : Option Nat} (h : Kd.C d w A n xs) (hg : w.grownBy w1 row) (hf : Off row A n) : Kd.C d w1 A n xs :=
 ⟨h.1, h.2.1, fun hn => by
  obtain ⟨ad, e, hc⟩ := h.2.2 hn; refine ⟨ad, e, fun i x hx => ?_⟩; obtain ⟨cs, hl, hK', hcell⟩ := hc i x hx; exact ⟨cs, hl, hK _ _ _ _ hK', fun j u hu => cell_grown hg (hcell j u hu) (by rw [add_block]; exact hf ad e hn)⟩⟩
def OffX (row : Option Nat) (x : OpX) : Prop := Off row x.2.1.1 x.1.p.length ∧ Off row x.2.2.1.1 x.1.s.length ∧ Off row x.2.2.2.1 x.1.r.length
theorem LiesX_grown {w w1 : World} {row : Option Nat} {x : OpX} (h : LiesX w x) (hg : w.grownBy w1 row) (hf : OffX row x) : LiesX w1 x :=
 ⟨C_grownF (fun _ _ _ _ h => h) h.p hg hf.1, C_grownF (fun _ _ _ _ h => h) h.s hg hf.2.1, C_grownF (fun _ _ _ _ h => h) h.r hg hf.2.2⟩
theorem OffX_new {w : World} {x : OpX} (h : LiesX w x) {b : Nat} (hb : w.heap.size ≤ b) : OffX (some b) x :=
 ⟨fun ad e hn e' => by have := C_lt (d := kCo) (by decide) h.p ad e hn; cases e'; omega, fun ad e hn e' => by have := C_lt (d := kAt) (by decide) h.s ad e hn; cases e'; omega, fun ad e hn e' => by have := C_lt (d := Kd.int .u8) (by decide) h.r ad e hn; cases e'; omega⟩
theorem OffX_past {n : Nat} {row : Option Nat} {x : OpX} (h : PastX n x) (hr : ∀ k, row = some k → k < n) : OffX row x :=
 ⟨fun ad e _ e' => by have := h.1 ad e; have := hr _ e'.symm; omega, fun ad e _ e' => by have := h.2.1 ad e; have := hr _ e'.symm; omega, fun ad e _ e' => by have := h.2.2 ad e; have := hr _ e'.symm; omega⟩
theorem OffX_at {W : World} {v v1 : Value} {x : OpX} (h : LiesX W x) (hf : OffX v.ownBlock x) (hat : v1.ownBlock = v.ownBlock ∨ ∃ b, v1.ownBlock = some b ∧ W.heap.size ≤ b) : OffX v1.ownBlock x := by
 rcases hat with e | ⟨b, e, hb⟩
 ·rw [e]; exact hf
 ·rw [e]; exact OffX_new h hb
end Go.Proofs.YtbplemhjhpfkgaaDoor.Cd
namespace Go.Proofs.YtbplemhjhpfkgaaDoor.Cd
open Go.RowKit YtbplemhjhpfkgaaDoorW.PrintWords YtbplemhjhpfkgaaDoorW.PrintLast YtbplemhjhpfkgaaDoorW.PrintMore Rd
def InI64 (n : Int) : Prop := -9223372036854775808 ≤ n ∧ n ≤ 9223372036854775807
theorem digits (n : Int) (h1 : -9223372036854775808 ≤ n) (h2 : n ≤ 9223372036854775807) :
  n = (if n < 0 then -18446744073709551616 else 0) + byteAt n 0 * 72057594037927936 + byteAt n 1 * 281474976710656 + byteAt n 2 * 1099511627776 + byteAt n 3 * 4294967296 + byteAt n 4 * 16777216 + byteAt n 5 * 65536 + byteAt n 6 * 256 + byteAt n 7 := by
 unfold byteAt; simp only [Nat.reduceSub, Nat.reduceMul, Int.reducePow]
 split <;> omega
theorem numOf_be8 (n : Int) (h : InI64 n) : wrap64 (numOf (be8 n)) = n := by
 have d := digits n h.1 h.2
 have e : numOf (be8 n) = byteAt n 0 * 72057594037927936 + byteAt n 1 * 281474976710656 + byteAt n 2 * 1099511627776 + byteAt n 3 * 4294967296 + byteAt n 4 * 16777216 + byteAt n 5 * 65536 + byteAt n 6 * 256 + byteAt n 7 := by
  unfold numOf be8; simp only [List.foldl_cons, List.foldl_nil]; omega
 obtain ⟨h1, h2⟩ := h; rw [e]; unfold wrap64
 split at d <;> omega
theorem rdN_be8 (n : Int) (h : InI64 n) (r : List Int) : rdN (be8 n ++ r, false) = (n, (r, false)) := by
 unfold rdN number1; rw [if_neg (by simp [be8_len])]; rw [show (be8 n ++ r).take 8 = be8 n from List.take_left' rfl, show (be8 n ++ r).drop 8 = r from List.drop_left' rfl, numOf_be8 n h]
theorem rdB_one (b : Int) (r : List Int) : rdB ([b] ++ r, false) = (b, (r, false)) := by simp [rdB, byte1]
theorem strOfNums_bytesOf (s : ByteArray) : strOfNums (bytesOf s) = s := by
 obtain ⟨⟨l⟩⟩ := s; simp only [strOfNums, bytesOf, List.map_map]
 congr 1
 have : ((fun n : Int => UInt8.ofNat n.toNat) ∘ fun b : UInt8 => (b.toNat : Int)) = id := by funext b; simp only [Function.comp, Int.toNat_natCast, UInt8.ofNat_toNat, id]
 simp [this]
theorem bytesOf_strOfNums (r : List Int) (h : Byt r) : bytesOf (strOfNums r) = r := by
 simp only [strOfNums, bytesOf, List.map_map]
 conv => rhs; rw [← List.map_id r]
 refine List.map_congr_left fun x hx => ?_
 have := h x hx; simp only [Function.comp, id]; rw [UInt8.toNat_ofNat']; omega
theorem rdT_text (s : ByteArray) (h : s.size ≤ 255) (r : List Int) : rdT (text8 s ++ r, false) = (s, (r, false)) := by
 unfold rdT text8 text1; rw [if_neg (by omega)]; have hb : byte1 ((s.size : Int) :: bytesOf s ++ r) false = ((s.size : Int), bytesOf s ++ r, false) := by simp [byte1]
 show (strOfNums (takes (byte1 ((s.size : Int) :: bytesOf s ++ r) false).2.1 (byte1 ((s.size : Int) :: bytesOf s ++ r) false).2.2 (byte1 ((s.size : Int) :: bytesOf s ++ r) false).1).1, _) = _
 rw [hb]; unfold takes; rw [if_neg (by simp only [Bool.false_eq_true, false_or, List.length_append, bytesOf_length]; omega)]; simp only [Bool.false_eq_true, if_false, Int.toNat_natCast]; rw [← bytesOf_length, List.take_left' rfl, List.drop_left' rfl, strOfNums_bytesOf]
def WfC (x : Co) : Prop := InI64 x.2.2.1 ∧ InI64 x.2.2.2.1
def WfA (x : At) : Prop := InI64 x.2.2.1
structure WfD (o : OpD) : Prop where
 c : InI64 o.c
 q : InI64 o.q
 h : InI64 o.h
 a : InI64 o.a
 t : InI64 o.t
 p : ∀ x ∈ o.p, WfC x
 s : ∀ x ∈ o.s, WfA x
theorem be8s_two (x y : Int) : be8s [x, y] = be8 x ++ be8 y := by simp [be8s]
theorem be8s_oneL (x : Int) : be8s [x] = be8 x := by simp [be8s]
theorem be8s_five (a b c d e : Int) : be8s [a, b, c, d, e] = be8 a ++ (be8 b ++ (be8 c ++ (be8 d ++ be8 e))) := by simp [be8s]
theorem rdCo_cB (x : Co) (hx : okC x = true) (hw : WfC x) (r : List Int) : rdCo (cB x ++ r, false) = (x, (r, false)) := by
 obtain ⟨n, k, lo, hi, t⟩ := x; simp only [okC, Bool.and_eq_true, decide_eq_true_iff] at hx; have hn : n.size ≤ 255 := by omega
 have ht : t.size ≤ 255 := by omega
 have hk : k % 256 = k := by omega
 have e : cB (n, k, lo, hi, t) ++ r = text8 n ++ ([k] ++ (be8 lo ++ (be8 hi ++ (text8 t ++ r)))) := by simp only [cB, hk, be8s_two, List.append_assoc]
 rw [e]; exact rdCo_of (rdT_text n hn _) (rdB_one k _) (rdN_be8 lo hw.1 _) (rdN_be8 hi hw.2 _) (rdT_text t ht r)
theorem rdAt_aB (x : At) (hx : okA x = true) (hw : WfA x) (r : List Int) : rdAt (aB x ++ r, false) = (x, (r, false)) := by
 obtain ⟨n, b, m, t⟩ := x; simp only [okA, Bool.and_eq_true, decide_eq_true_iff] at hx; have hn : n.size ≤ 255 := by omega
 have ht : t.size ≤ 255 := by omega
 have e : aB (n, b, m, t) ++ r = text8 n ++ ([fl b] ++ (be8 m ++ (text8 t ++ r))) := by simp only [aB, be8s_oneL, List.append_assoc]
 rw [e, rdAt_of (rdT_text n hn _) (rdB_one (fl b) _) (rdN_be8 m hw _) (rdT_text t ht r)]; cases b <;> rfl
theorem rdMany_of {α : Type} (f : Rs → α × Rs) (enc : α → List Int) : ∀ (xs : List α) (_ : ∀ x ∈ xs, ∀ r, f (enc x ++ r, false) = (x, (r, false))) (r : List Int) (l : List α), rdMany f xs.length (xs.flatMap enc ++ r, false) l = (l ++ xs, (r, false))
 | [], _, r, l => by simp [rdMany]
 | x :: xs, h, r, l => by
  rw [List.length_cons, rdMany_step _ _ _ _ rfl, List.flatMap_cons, List.append_assoc, h x (by simp)]; rw [rdMany_of f enc xs (fun y hy => h y (by simp [hy])) r (l ++ [x])]
  simp
theorem readD_back (o : OpD) (hr : rightD o = true) (hw : WfD o) (hb : Byt o.r) : readD (oBy o, false) = (o, ([], false)) := by
 obtain ⟨k, c, q, h, a, t, p, s, r⟩ := o; simp only [rightD, Bool.and_eq_true, decide_eq_true_iff, List.all_eq_true, known] at hr; obtain ⟨⟨⟨⟨hk, _⟩, hp, hs, hrr⟩, hC⟩, hA⟩ := hr; have e1 : k % 256 = k := by omega
 have e2 : (p.length : Int) % 256 = p.length := by omega
 have e3 : (s.length : Int) % 256 = s.length := by omega
 have hz : (strOfNums r).size ≤ 255 := by simp [strOfNums, ByteArray.size]; omega
 have e : oBy ⟨k, c, q, h, a, t, p, s, r⟩ = [k] ++ (be8 c ++ (be8 q ++ (be8 h ++ (be8 a ++ (be8 t ++ ([(p.length : Int)] ++ (p.flatMap cB ++ ([(s.length : Int)] ++ (s.flatMap aB ++ (text8 (strOfNums r) ++ [])))))))))) := by
  show opB k c q h a t p s r = _
  simp only [opB, e1, e2, e3, be8s_five, List.append_assoc, List.append_nil]
 rw [e]; have hP := rdMany_of rdCo cB p (fun x hx r => rdCo_cB x (hC x hx) (hw.p x hx) r); have hS := rdMany_of rdAt aB s (fun x hx r => rdAt_aB x (hA x hx) (hw.s x hx) r); have := readD_of (rdB_one k _) (rdN_be8 c hw.c _) (rdN_be8 q hw.q _) (rdN_be8 h hw.h _) (rdN_be8 a hw.a _) (rdN_be8 t hw.t _) (rdB_one (p.length : Int) _) (by rw [Int.toNat_natCast]; exact hP _ []) (rdB_one (s.length : Int) _) (by rw [Int.toNat_natCast]; exact hS _ []) (rdT_text (strOfNums r) hz []); rw [this]
 simp [bytesOf_strOfNums r hb]
theorem decD_back (o : OpD) (hr : rightD o = true) (hw : WfD o) (hb : Byt o.r) : decD (oBy o) = some o := by
 unfold decD; rw [readD_back o hr hw hb]
 simp [hr]
theorem decode_ok (A : Option Addr) (c : Nat) (o : OpD) (w : World) (hr : Kd.C (Kd.int .u8) w A (oBy o).length (oBy o)) (hR : rightD o = true) (hw : WfD o) (hb : Byt o.r) :
  Calls Tryd.prog 31 #[.slice A (oBy o).length c] w fun e w' => ∃ x : OpX, x.1 = o ∧ e = .returned (.tuple #[oX x, .nilIface]) ∧ LiesX w' x ∧ PastX w.heap.size x ∧ Below w.heap.size w w' := by
 have hle := oBy_le hR; refine (decode_calls A c (oBy o) w hr (byt_opB _ _ _ _ _ _ _ _ _) (by omega)).mono ?_; rintro e w' ⟨h1, _, hB⟩; obtain ⟨A6, m6, A7, m7, A8, m8, rfl, hL, p6, p7, p8⟩ := h1 o (decD_back o hR hw hb); exact ⟨(o, (A6, m6), (A7, m7), (A8, m8)), rfl, rfl, hL, ⟨p6, p7, p8⟩, hB⟩
end Go.Proofs.YtbplemhjhpfkgaaDoor.Cd
namespace Go.Proofs.YtbplemhjhpfkgaaDoor.Cd
open Go.RowKit YtbplemhjhpfkgaaDoorW.PrintWords YtbplemhjhpfkgaaDoorW.PrintLast YtbplemhjhpfkgaaDoorW.PrintMore Rd
open Go.Proofs.YtbplemhjhpfkgaaDoor.Ft (Door Chain new_chain kind_calls chain_iface)
theorem be8_by (x : Int) : Byt (be8 x) := by have := byt_be8s [x]; rwa [be8s_oneL] at this
theorem cut_u8 (A : Option Addr) (c : Nat) (l : List Int) (j : Int) (n : Nat) (hn : j.toNat = n) (h0 : 0 ≤ j) (hj : j ≤ l.length) (hc : l.length ≤ c) :
  (∀ W : World, (Instr.slice 22 (.slice A l.length c) none (some (.int .i64 j)) none).run Tryd.prog W = .ok (.slice A n c) W) ∧ (∀ w, Kd.C (Kd.int .u8) w A l.length l → Kd.C (Kd.int .u8) w A n (l.take n)) ∧ (l.take n).length = n := by
 obtain ⟨i0, hi0, _, hsz0, _⟩ := info_parts infoU8; obtain ⟨h1, h2, h3⟩ := print_take_of (P := Tryd.prog) (Value.int .u8) 0 22 5 .i64 Tryd.underlying22 hi0 hsz0 A c l j h0 hj hc; subst hn; have hl : (l.take j.toNat).length = j.toNat := by rw [List.length_take]; omega
 rw [hl] at h1; refine ⟨h1, fun w h => ?_, hl⟩; have := Kd.C_of_reads (h1 := fun _ => rfl) (h2 w (Kd.reads_of_C h)); rw [hl] at this; exact this
theorem off_u8 (A : Option Addr) (c : Nat) (l : List Int) (m : Nat) (hm : m ≤ l.length) (hc : l.length ≤ c) :
  ∃ A' : Option Addr, (∀ W : World, (Instr.slice 22 (.slice A l.length c) (some (.int .i64 (m : Int))) none none).run Tryd.prog W = .ok (.slice A' (l.drop m).length (c - m)) W) ∧ (∀ w, Kd.C (Kd.int .u8) w A l.length l → Kd.C (Kd.int .u8) w A' (l.drop m).length (l.drop m)) ∧ (l.drop m).length ≤ c - m := by
 obtain ⟨i0, hi0, _, hsz0, _⟩ := info_parts infoU8; obtain ⟨A', h1, h2⟩ := print_cut (P := Tryd.prog) 22 5 .i64 Tryd.underlying22 hi0 hsz0 A l.length c m hm; refine ⟨A', fun W => by rw [List.length_drop]; exact h1 W, fun w h => ?_, by rw [List.length_drop]; omega⟩; have := h2 w .u8 l hc (Kd.reads_of_C (d := (0 : Int)) h); rw [← List.length_drop] at this; exact Kd.C_of_reads (d := (0 : Int)) (h1 := fun _ => rfl) this
end Go.Proofs.YtbplemhjhpfkgaaDoor.Cd
namespace Go.Proofs.YtbplemhjhpfkgaaDoor.Cd
open Go.RowKit YtbplemhjhpfkgaaDoorW.PrintWords YtbplemhjhpfkgaaDoorW.PrintLast YtbplemhjhpfkgaaDoorW.PrintMore Rd
open Go.Proofs.YtbplemhjhpfkgaaDoor.Ft (Door Chain new_chain kind_calls chain_iface)
def nc3Reg.T3 : Bool × List (List Nat × List Nat) := (true, [([], []), ([0], [0]), ([1], [1]), ([2, 2], [2]), ([], []), ([4], [4]), ([3, 3, 0, 1, 2, 3], [3]), ([5, 6, 0, 1, 2, 3, 4, 5, 6], [5])])
def nc3Reg.B3 : List Nat := [0, 1, 3, 7, 0, 16, 15, 127]
theorem nc3Reg.tab3 : rtab .any (opsOf Tryd.f67 3) = nc3Reg.T3 := by kernel_rfl
theorem nc3Reg.bits3 : waitsOk nc3Reg.T3.2 nc3Reg.B3 = true := by kernel_rfl
set_option maxRecDepth 100000 in
set_option maxHeartbeats 16000000 in
theorem next_few (A : Option Addr) (c : Nat) (xs : List Int) (w : World) (h8 : xs.length < 8) :
  Calls Tryd.prog 67 #[.slice A xs.length c] w fun e w' => e = .returned (.tuple #[.agg #[.int .i64 0, .int .i64 0, .int .i64 0, .int .i64 0, .int .i64 0, .int .i64 0, .slice none 0 0, .slice none 0 0, .slice none 0 0], .slice none 0 0, .iface 31 (.int .i64 1)]) ∧ Below w.heap.size w w' := by
 have hd1 : decide ((xs.length : Int) < 8) = true := decide_eq_true (by omega); have HZ := sd (blk_new w (.cells #[.int .i64 0, .int .i64 0, .int .i64 0, .int .i64 0, .int .i64 0, .int .i64 0, .slice none 0 0, .slice none 0 0, .slice none 0 0] 30)); have HW := sd (below_alloc (Below.refl w.heap.size w) (.cells #[.int .i64 0, .int .i64 0, .int .i64 0, .int .i64 0, .int .i64 0, .int .i64 0, .slice none 0 0, .slice none 0 0, .slice none 0 0] 30))
 go_enter Tryd.func67, Tryd.ntmps67
 go_upto_region 2 with fail
 generalize (w.alloc (.cells #[.int .i64 0, .int .i64 0, .int .i64 0, .int .i64 0, .int .i64 0, .int .i64 0, .slice none 0 0, .slice none 0 0, .slice none 0 0] 30)) = wa at *; obtain ⟨z0, z1, z2, z3, z4, z5, z6, z7, z8⟩ := bl9 HZ.out; obtain ⟨f0, f1, f2, f3, f4, f5, f6, f7, f8⟩ := fz9 HZ.out; have hl := blk_lt HZ.out; obtain ⟨hk9, hb9, hw9⟩ := put9 HZ.out (.int .i64 0) (.int .i64 0) (.int .i64 0) (.int .i64 0) (.int .i64 0) (.int .i64 0) (.slice none 0 0) (.slice none 0 0) (.slice none 0 0); have HE := sd hb9; have HWE := sd (hw9 w HW.out (Nat.le_refl _)); clear hk9 hb9 hw9; go_wp2; generalize (((((((((wa.setCell ⟨w.heap.size, 0, none⟩ (.int .i64 0)).setCell ⟨w.heap.size, 1, none⟩ (.int .i64 0)).setCell ⟨w.heap.size, 2, none⟩ (.int .i64 0)).setCell ⟨w.heap.size, 3, none⟩ (.int .i64 0)).setCell ⟨w.heap.size, 4, none⟩ (.int .i64 0)).setCell ⟨w.heap.size, 5, none⟩ (.int .i64 0)).setCell ⟨w.heap.size, 6, none⟩ (.slice none 0 0)).setCell ⟨w.heap.size, 7, none⟩ (.slice none 0 0)).setCell ⟨w.heap.size, 8, none⟩ (.slice none 0 0)) = we at *; clear z0 f0 z1 f1 z2 f2 z3 f3 z4 f4 z5 f5 z6 f6 z7 f7 z8 f8 hl; obtain ⟨q0, q1, q2, q3, q4, q5, q6, q7, q8⟩ := bl9 HE.out; refine bodyPost_ret (v := .tuple #[.agg #[.int .i64 0, .int .i64 0, .int .i64 0, .int .i64 0, .int .i64 0, .int .i64 0, .slice none 0 0, .slice none 0 0, .slice none 0 0], .slice none 0 0, .iface 31 (.int .i64 1)]) (by simp [results, Tryd.results67, go_sem, q0, q1, q2, q3, q4, q5, q6, q7, q8]) rfl ⟨rfl, HWE.out⟩
set_option maxRecDepth 100000 in
set_option maxHeartbeats 16000000 in
theorem next_cut (A : Option Addr) (c : Nat) (ob R1 : List Int) (w : World) (hr : Kd.C (Kd.int .u8) w A (be8 (ob.length : Int) ++ R1).length (be8 (ob.length : Int) ++ R1)) (hc : (be8 (ob.length : Int) ++ R1).length ≤ c) (hlt : R1.length < ob.length) (hle : ob.length ≤ 300000) :
  Calls Tryd.prog 67 #[.slice A (be8 (ob.length : Int) ++ R1).length c] w fun e w' => e = .returned (.tuple #[.agg #[.int .i64 0, .int .i64 0, .int .i64 0, .int .i64 0, .int .i64 0, .int .i64 0, .slice none 0 0, .slice none 0 0, .slice none 0 0], .slice none 0 0, .iface 31 (.int .i64 1)]) ∧ Below w.heap.size w w' := by
 have e1 : (be8 (ob.length : Int) ++ R1).drop 8 = R1 := List.drop_left' rfl; have e2 : (be8 (ob.length : Int) ++ R1).take 8 = be8 (ob.length : Int) := List.take_left' rfl; have hL : (be8 (ob.length : Int) ++ R1).length = 8 + R1.length := by rw [List.length_append, be8_len]
 obtain ⟨c8, C8, _⟩ := cut_u8 A c (be8 (ob.length : Int) ++ R1) 8 8 rfl (by omega) (by omega) hc; obtain ⟨A1, d8, D8, l8⟩ := off_u8 A c (be8 (ob.length : Int) ++ R1) 8 (by omega) hc; rw [e1] at d8 D8 l8; rw [e2] at C8; have H8 := sd (C8 w hr); have HRead : Hid (∀ W, Kd.C (Kd.int .u8) W A 8 (be8 (ob.length : Int)) → Calls Tryd.prog 63 #[.slice A 8 c] W fun e w' => ∃ w0 g, e = .returned (.pointer (some ⟨g, 0, none⟩)) ∧ IsRs w0 w' g (be8 (ob.length : Int), false) ∧ Below W.heap.size W w0 ∧ Below w0.heap.size w0 w') := Lib.hid (fun W h => read_calls A c (be8 (ob.length : Int)) W h (be8_by _) (by simp [be8_len])); have HN : Hid (rdN (be8 (ob.length : Int), false) = ((ob.length : Int), ([], false))) := Lib.hid (by have := rdN_be8 (ob.length : Int) ⟨by omega, by omega⟩ []; rwa [List.append_nil] at this); have HB8 := Lib.hid (be8_by (ob.length : Int)); have hd1 : decide (((be8 (ob.length : Int) ++ R1).length : Int) < 8) = false := decide_eq_false (by omega); have hd2 : decide ((ob.length : Int) < 0) = false := decide_eq_false (by omega); have hd3 : decide ((ob.length : Int) > (R1.length : Int)) = true := decide_eq_true (by omega); clear hr C8 D8 e1 e2 hL; have d8' : ∀ W : World, (Instr.slice 22 (.slice A (be8 (ob.length : Int) ++ R1).length c) (some (.int .i64 8)) none none).run Tryd.prog W = .ok (.slice A1 R1.length (c - 8)) W := d8; clear d8; generalize (be8 (ob.length : Int) ++ R1).length = nL at *; generalize be8 (ob.length : Int) = b8 at HN HB8 H8 HRead; have HZ := sd (blk_new w (.cells #[.int .i64 0, .int .i64 0, .int .i64 0, .int .i64 0, .int .i64 0, .int .i64 0, .slice none 0 0, .slice none 0 0, .slice none 0 0] 30)); have HW := sd (below_alloc (Below.refl w.heap.size w) (.cells #[.int .i64 0, .int .i64 0, .int .i64 0, .int .i64 0, .int .i64 0, .int .i64 0, .slice none 0 0, .slice none 0 0, .slice none 0 0] 30))
 go_enter Tryd.func67, Tryd.ntmps67
 go_upto_region 3 with fail
 generalize (w.alloc (.cells #[.int .i64 0, .int .i64 0, .int .i64 0, .int .i64 0, .int .i64 0, .int .i64 0, .slice none 0 0, .slice none 0 0, .slice none 0 0] 30)) = wa at *
 go_cut [5, 6] from 14 to 19 (fun v u wx => v = .int .i64 (ob.length : Int) ∧ u = .slice A1 R1.length (c - 8) ∧ Aside0 (Below w.heap.size w wx) ∧ Aside0 (wx.heap[w.heap.size]? = some (.cells #[.int .i64 0, .int .i64 0, .int .i64 0, .int .i64 0, .int .i64 0, .int .i64 0, .slice none 0 0, .slice none 0 0, .slice none 0 0] 30 (0, 0))))
 case first =>
  refine start_ (n := 8) (S := fun w' => True) (ds := []) #[false, false, false, false, false, false, false, false] (by kernel_rfl) rfl rfl trivial (fun hHeld => ?_); refine with_tabW nc3Reg.tab3 nc3Reg.bits3 (fun HT_ HW_ => ?_); refine pure_ (i := 0) (N := some 14) (v := ?_) (a' := ?_) #[true, false, false, false, false, false, false, false] rfl rfl (any_of HT_.out (by kernel_rfl)) (fun _ _ _ h => h) (Or.inl ⟨by rfl, ?_⟩) ?_ ?_
  rotate_left
  ·intro w'; go_simp
   with_reducible rfl
  rotate_left
  ·simp only [Act.put, List.setIfInBounds_toArray, List.set_cons_zero, List.set_cons_succ, i64_w, i32_w]; rfl
  refine pure_ (i := 1) (N := some 15) (v := ?_) (a' := ?_) #[true, true, false, false, false, false, false, false] rfl rfl (any_of HT_.out (by kernel_rfl)) (fun _ _ _ h => h) (Or.inl ⟨by rfl, ?_⟩) ?_ ?_
  rotate_left
  ·intro w'; go_simp
   with_reducible rfl
  rotate_left
  ·simp only [Act.put, List.setIfInBounds_toArray, List.set_cons_zero, List.set_cons_succ, i64_w, i32_w]; rfl
  refine pure_ (i := 4) (N := some 18) (v := ?_) (a' := ?_) #[true, true, false, false, true, false, false, false] rfl rfl (any_of HT_.out (by kernel_rfl)) (fun _ _ _ h => h) (Or.inl ⟨by rfl, ?_⟩) ?_ ?_
  rotate_left
  ·intro w'; go_simp
   with_reducible rfl
  rotate_left
  ·simp only [Act.put, List.setIfInBounds_toArray, List.set_cons_zero, List.set_cons_succ, i64_w, i32_w]; rfl
  refine pure_ (i := 5) (N := some 19) (v := ?_) (a' := ?_) #[true, true, false, false, true, true, false, false] rfl rfl (any_of HT_.out (by kernel_rfl)) (fun _ _ _ h => h) (Or.inl ⟨by rfl, ?_⟩) ?_ ?_
  rotate_left
  ·intro w'; go_simp
   with_reducible rfl
  rotate_left
  ·simp only [Act.put, List.setIfInBounds_toArray, List.set_cons_zero, List.set_cons_succ, i64_w, i32_w]; rfl
  refine inv_at [2, 3, 6, 7] (fun a0_ b a w' => ∃ (g_ : Nat) (wz_ : World) (m2_ : Value), a = putSel a0_ b [(2, 16, m2_), (3, 17, .int .i64 (ob.length : Int)), (6, 5, .int .i64 (ob.length : Int)), (7, 6, .slice A1 R1.length (c - 8))] ∧ (Below w.heap.size w w') ∧ (w'.heap[w.heap.size]? = some (.cells #[.int .i64 0, .int .i64 0, .int .i64 0, .int .i64 0, .int .i64 0, .int .i64 0, .slice none 0 0, .slice none 0 0, .slice none 0 0] 30 (0, 0))) ∧ (b 2 = true → b 3 = false → IsRs wz_ w' g_ (b8, false) ∧ Below wz_.heap.size wz_ w' ∧ Below w.heap.size w wz_ ∧ wz_.heap[w.heap.size]? = some (.cells #[.int .i64 0, .int .i64 0, .int .i64 0, .int .i64 0, .int .i64 0, .int .i64 0, .slice none 0 0, .slice none 0 0, .slice none 0 0] 30 (0, 0))) ∧ (b 2 = true → (m2_ : Value) = .pointer (some ⟨g_, 0, none⟩))) HT_.out HW_.out (by kernel_rfl) (by kernel_rfl) ?_ ?_ ?_
  ·exact ⟨0, w, .bool false, by simp only [putSel, Bool.false_eq_true, if_false], below_drew HW.out, HZ.out, fun h_ => absurd h_ (by decide), fun h_ => absurd h_ (by decide)⟩
  ·skip
   clear HW HZ; refine steps_cons ?_ ?_
   ·rintro b a w' ⟨g_, wz_, m2_, ha, QHW, QHZ, QR2, QX2_⟩ hb_ hon hoff; refine ⟨_, rfl, fun K hK => ?_⟩; have e15 := ef ha 15 (.slice A 8 c); replace ha := sd ha; have HW := sd QHW; have HZ := sd QHZ; refine goes_ Tryd.func63 (by kernel_rfl) rfl #[.slice A 8 c] (by rfl) rfl rfl (ev1 e15) ?_; refine (HRead.out w' (Kd.C_below H8.out HW.out)).mono ?_; rintro e w2 ⟨wz, gz, rfl, hI, hB0, hB1⟩; refine ⟨_, rfl, ?_⟩; refine hK.out _ _ ⟨gz, wz, (.pointer (some ⟨gz, 0, none⟩)), uk ha.out 0 hb_ rfl rfl rfl, below_step (below_step HW.out hB0) hB1, blk_below (blk_below HZ.out hB0) hB1, fun _ _ => ⟨hI, hB1, below_step HW.out hB0, blk_below HZ.out hB0⟩, fun _ => rfl⟩
   refine steps_cons ?_ ?_
   ·rintro b a w' ⟨g_, wz_, m2_, ha, QHW, QHZ, QR2, QX2_⟩ hb_ hon hoff; refine ⟨_, rfl, fun K hK => ?_⟩; have e16 := ek ha 0 2 16 (m2_) hon; rw [QX2_ (aC hon 2)] at e16; replace ha := sd ha; have HW := sd QHW; have HZ := sd QHZ; have R2 := sd (QR2 (aC hon 2) hb_); refine goes_ Tryd.func91 (by kernel_rfl) rfl #[.pointer (some ⟨g_, 0, none⟩)] (by rfl) rfl rfl (ev1 e16) ?_; refine (rdN_calls HN.out g_ wz_ w' R2.out.1 R2.out.2.1).mono ?_; rintro e w2 ⟨rfl, hI, hB, hKp⟩; refine ⟨_, rfl, ?_⟩; refine hK.out _ _ ⟨g_, wz_, m2_, uk ha.out 1 hb_ rfl rfl rfl, below_step R2.out.2.2.1 hB, blk_below R2.out.2.2.2 hB, fun _ h1_ => aU b 3 h1_, QX2_⟩
   refine steps_cons ?_ ?_
   ·rintro b a w' ⟨g_, wz_, m2_, ha, QHW, QHZ, QR2, QX2_⟩ hb_ hon hoff; refine ⟨_, rfl, fun K hK => ?_⟩; have e17 := ek ha 1 3 17 (.int .i64 (ob.length : Int)) hon; replace ha := sd ha; have HW := sd QHW; have HZ := sd QHZ; refine value_ (w1 := w') (v := .int .i64 (ob.length : Int)) (by rfl) rfl ?_ ?_
    ·go_simp; (try simp only [i64_w]); try rfl
    refine hK.out _ _ ⟨g_, wz_, m2_, uk ha.out 2 hb_ rfl rfl rfl, QHW, QHZ, fun _ h1_ => aT hon 3 h1_, QX2_⟩
   refine steps_cons ?_ ?_
   ·rintro b a w' ⟨g_, wz_, m2_, ha, QHW, QHZ, QR2, QX2_⟩ hb_ hon hoff; refine ⟨_, rfl, fun K hK => ?_⟩; have e19 := ef ha 19 (.slice A1 R1.length (c - 8)); replace ha := sd ha; have HW := sd QHW; have HZ := sd QHZ; refine value_ (w1 := w') (v := .slice A1 R1.length (c - 8)) (by rfl) rfl ?_ ?_
    ·go_simp; (try simp only [i64_w]); try rfl
    refine hK.out _ _ ⟨g_, wz_, m2_, uk ha.out 3 hb_ rfl rfl rfl, QHW, QHZ, fun _ h1_ => aT hon 3 h1_, QX2_⟩
   exact steps_nil
  ·rintro b a w' hall ⟨g_, wz_, m2_, ha, QHW, QHZ, QR2, QX2_⟩; clear HW HZ; have hb2_ := hall 2 (by kernel_rfl); have hb3_ := hall 3 (by kernel_rfl); have hb6_ := hall 6 (by kernel_rfl); have hb7_ := hall 7 (by kernel_rfl); subst ha; obtain rfl := QX2_ hb2_; simp only [putSel, hb2_, hb3_, hb6_, hb7_, if_true, Act.put, List.setIfInBounds_toArray, List.set_cons_zero, List.set_cons_succ]; have HW := sd QHW; clear QHW; have HZ := sd QHZ; clear QHZ; clear QR2; clear hall hb2_ hb3_ hb6_ hb7_; go_wp2; go_meet
   case rel => exact ⟨rfl, rfl, HW, HZ⟩
 case rest =>
  obtain ⟨rfl, rfl, HW2, HZ2⟩ := hcut; clear HW HZ HRead HN; have HW := HW2; have HZ := HZ2; clear HW2 HZ2; obtain ⟨z0, z1, z2, z3, z4, z5, z6, z7, z8⟩ := bl9 HZ.out; obtain ⟨f0, f1, f2, f3, f4, f5, f6, f7, f8⟩ := fz9 HZ.out; have hl := blk_lt HZ.out; obtain ⟨hk9, hb9, hw9⟩ := put9 HZ.out (.int .i64 0) (.int .i64 0) (.int .i64 0) (.int .i64 0) (.int .i64 0) (.int .i64 0) (.slice none 0 0) (.slice none 0 0) (.slice none 0 0); have HE := sd hb9; have HWE := sd (hw9 w HW.out (Nat.le_refl _)); clear hk9 hb9 hw9; go_wp2; generalize (((((((((wc.setCell ⟨w.heap.size, 0, none⟩ (.int .i64 0)).setCell ⟨w.heap.size, 1, none⟩ (.int .i64 0)).setCell ⟨w.heap.size, 2, none⟩ (.int .i64 0)).setCell ⟨w.heap.size, 3, none⟩ (.int .i64 0)).setCell ⟨w.heap.size, 4, none⟩ (.int .i64 0)).setCell ⟨w.heap.size, 5, none⟩ (.int .i64 0)).setCell ⟨w.heap.size, 6, none⟩ (.slice none 0 0)).setCell ⟨w.heap.size, 7, none⟩ (.slice none 0 0)).setCell ⟨w.heap.size, 8, none⟩ (.slice none 0 0)) = we at *; clear z0 f0 z1 f1 z2 f2 z3 f3 z4 f4 z5 f5 z6 f6 z7 f7 z8 f8 hl; obtain ⟨q0, q1, q2, q3, q4, q5, q6, q7, q8⟩ := bl9 HE.out; refine bodyPost_ret (v := .tuple #[.agg #[.int .i64 0, .int .i64 0, .int .i64 0, .int .i64 0, .int .i64 0, .int .i64 0, .slice none 0 0, .slice none 0 0, .slice none 0 0], .slice none 0 0, .iface 31 (.int .i64 1)]) (by simp [results, Tryd.results67, go_sem, q0, q1, q2, q3, q4, q5, q6, q7, q8]) rfl ⟨rfl, HWE.out⟩
end Go.Proofs.YtbplemhjhpfkgaaDoor.Cd
namespace Go.Proofs.YtbplemhjhpfkgaaDoor.Cd
open Go.RowKit YtbplemhjhpfkgaaDoorW.PrintWords YtbplemhjhpfkgaaDoorW.PrintLast YtbplemhjhpfkgaaDoorW.PrintMore Rd
open Go.Proofs.YtbplemhjhpfkgaaDoor.Ft (Door Chain new_chain kind_calls chain_iface)
def allB (xs : List OpX) : List Int := xs.flatMap fun x => sB x.1
theorem allB_take {xs : List OpX} {j : Nat} {x : OpX} (h : xs[j]? = some x) : allB (xs.take (j + 1)) = allB (xs.take j) ++ be8 ((oBy x.1).length : Int) ++ oBy x.1 := by
 unfold allB; rw [take_snocF (fun x : OpX => sB x.1) h]
 simp [sB, List.append_assoc]
theorem allB_le {xs : List OpX} (h : ∀ x ∈ xs, rightD x.1 = true) : (allB xs).length ≤ 300008 * xs.length := by
 induction xs with
 | nil => simp [allB]
 | cons x xs ih =>
  have h1 := ih (fun y hy => h y (by simp [hy])); have h2 := sB_le (h x (by simp)); simp only [allB, List.flatMap_cons, List.length_append, List.length_cons] at h1 ⊢; omega
set_option maxRecDepth 100000 in
set_option maxHeartbeats 16000000 in
theorem all_calls (A : Option Addr) (c : Nat) (xs : List OpX) (w : World) (hr : Kd.C kOp w A xs.length xs) (hl : ∀ x ∈ xs, LiesX w x) (hb : ∀ x ∈ xs, Byt x.1.r) (hR : ∀ x ∈ xs, rightD x.1 = true) (hn : xs.length ≤ 100) :
  Calls Tryd.prog 32 #[.slice A xs.length c] w fun e w' => ∃ v, e = .returned (.tuple #[v, .nilIface]) ∧ Kd.R (Kd.int .u8) 5 w' w.heap.size (fun _ => True) v (allB xs) ∧ Below w.heap.size w w' := by
 have HR := sd hr; have HL := sd hl; have HBy := sd hb; have HRt := sd hR
 have HLe : Hid (∀ j, (allB (xs.take j)).length ≤ 30000800) := Lib.hid (fun j => by
  have h1 := allB_le (xs := xs.take j) (fun y hy => hR y (List.mem_of_mem_take hy)); rw [List.length_take] at h1; have : min j xs.length ≤ 100 := by omega
  omega)
 clear hr hl hb hR
 go_enter Tryd.func32, Tryd.ntmps32
 go_upto_region 3 with fail
 go_loopw [4, 11] (fun v i wr => ∃ j : Nat, j ≤ xs.length ∧ i = .int .i64 (j : Int) ∧ Aside0 (Kd.R (Kd.int .u8) 5 wr w.heap.size (fun _ => True) v (allB (xs.take j))) ∧ Aside0 (Below w.heap.size w wr)) (fun _ i _ => xs.length - (intOf i).toNat)
 case atStart => exact ⟨0, Nat.zero_le _, rfl, ⟨Kd.R_nil _ _ _ _ _⟩, ⟨Below.refl _ _⟩⟩
 case round =>
  obtain ⟨j, hj, rfl, HO, HW⟩ := hrel
  by_cases hlt : j < xs.length
  ·obtain ⟨ad, ⟨o, ⟨A6, m6⟩, ⟨A7, m7⟩, ⟨A8, m8⟩⟩, rfl, hx, d0, d1, d2, d3, d4, d5, d6, d7, d8⟩ := at_Op (Kd.C_below HR.out HW.out) j hlt; have hmem := List.mem_of_getElem? hx; have HLx := sd (show Lies wr o A6 A7 A8 from Lies.below (HL.out _ hmem) HW.out); have HBx : Hid (Byt o.r) := Lib.hid (HBy.out _ hmem); have HRx : Hid (rightD o = true) := Lib.hid (HRt.out _ hmem); obtain ⟨ob, hob⟩ : ∃ ob, oBy o = ob := ⟨_, rfl⟩; have HE : Hid (allB (xs.take (j + 1)) = allB (xs.take j) ++ be8s [(ob.length : Int)] ++ ob) := Lib.hid (by rw [allB_take hx, be8s_oneL]; simp only [hob]); have hpl := HLe.out j; have hol : ob.length ≤ 300000 := by rw [← hob]; exact oBy_le HRx.out
   have HOB := Lib.hid hob
   dsimp only at d0 d1 d2 d3 d4 d5 d6 d7 d8
   clear hx hmem hob; generalize allB (xs.take j) = pr at HO HE hpl; have HQ := sd (blk_new wr (.cells #[.int .i64 o.k, .int .i64 o.c, .int .i64 o.q, .int .i64 o.h, .int .i64 o.a, .int .i64 o.t, .slice A6 o.p.length m6, .slice A7 o.s.length m7, .slice A8 o.r.length m8] 30)); have HL2 := sd (Lies.below HLx.out (below_alloc (Below.refl wr.heap.size wr) (.cells #[.int .i64 o.k, .int .i64 o.c, .int .i64 o.q, .int .i64 o.h, .int .i64 o.a, .int .i64 o.t, .slice A6 o.p.length m6, .slice A7 o.s.length m7, .slice A8 o.r.length m8] 30))); replace HO := sd (Kd.R_alloc HO.out (.cells #[.int .i64 o.k, .int .i64 o.c, .int .i64 o.q, .int .i64 o.h, .int .i64 o.a, .int .i64 o.t, .slice A6 o.p.length m6, .slice A7 o.s.length m7, .slice A8 o.r.length m8] 30)); replace HW := sd (below_alloc HW.out (.cells #[.int .i64 o.k, .int .i64 o.c, .int .i64 o.q, .int .i64 o.h, .int .i64 o.a, .int .i64 o.t, .slice A6 o.p.length m6, .slice A7 o.s.length m7, .slice A8 o.r.length m8] 30)); clear HLx
   go_upto_region 5 with fail
   clear d0 d1 d2 d3 d4 d5 d6 d7 d8; generalize (wr.alloc (.cells #[.int .i64 o.k, .int .i64 o.c, .int .i64 o.q, .int .i64 o.h, .int .i64 o.a, .int .i64 o.t, .slice A6 o.p.length m6, .slice A7 o.s.length m7, .slice A8 o.r.length m8] 30)) = wa at *; generalize wr.heap.size = bq at *; obtain ⟨q0, q1, q2, q3, q4, q5, q6, q7, q8⟩ := bl9 HQ.out; have hlq := blk_lt HQ.out
   go_upto_region 8 with (go_at_call 14; refine (enc_right o A6 m6 A7 m7 A8 m8 _ HL2.out HBx.out HRx.out).mono ?_; rintro e w3 ⟨vb, rfl, hR, hB⟩; replace hR : Kd.R (Kd.int .u8) 5 w3 wa.heap.size (fun _ => True) vb (oBy o) := hR; rw [HOB.out] at hR; obtain ⟨Av, cv, rfl, hcv, hCv⟩ := Kd.R_reads hR; have HF := sd (far_new (Kd.R_lt HO.out) (Kd.R_base hR)); have HV := sd (Kd.R_lower hR HW.out.size); replace HO := sd (Kd.R_below HO.out hB); replace HW := sd (below_step HW.out hB); clear hR hB hCv)
   clear q0 q1 q2 q3 q4 q5 q6 q7 q8 hlq HQ HL2 HOB HBx HRx; have hpr2 : (pr ++ be8s [(ob.length : Int)]).length ≤ 30000808 := by rw [List.length_append, be8s_len]; simp; omega
   have HNC := sd (C_lit .i64 [(ob.length : Int)] w3 3 (by simp)); replace HO := sd (Kd.R_alloc HO.out (.cells #[.int .i64 (ob.length : Int)] 3)); replace HV := sd (Kd.R_alloc HV.out (.cells #[.int .i64 (ob.length : Int)] 3)); replace HW := sd (below_alloc HW.out (.cells #[.int .i64 (ob.length : Int)] 3)); have hb8 : (be8s [(ob.length : Int)]).length = 8 := by rw [be8s_len]; rfl
   have HNm : Hid (∀ W, Kd.C (Kd.int .i64) W (some ⟨w3.heap.size, 0, none⟩) 1 [(ob.length : Int)] → Calls Tryd.prog 66 #[.slice (some ⟨w3.heap.size, 0, none⟩) 1 1] W fun e w' => ∃ v, e = .returned v ∧ Kd.R (Kd.int .u8) 5 w' W.heap.size (fun _ => True) v (be8s [(ob.length : Int)]) ∧ Below W.heap.size W w') := Lib.hid (fun W h => num_calls (some ⟨w3.heap.size, 0, none⟩) 1 [(ob.length : Int)] W h (by simp)); generalize be8s [(ob.length : Int)] = b8 at *; have HPR := sd hpr2; have HB8 := Lib.hid hb8; clear hpr2 hb8
   go_wp2_with (first
    | (replace HO2 := HO2; ((with_reducible refine gate_builtin (b := .append) (xs := #[.tmp 31, .tmp 32]) rfl ?_); at_builtin; refine Kd.R_append_row (Value.int .u8) (0 : Int) (h1 := fun _ => rfl) (w0 := w) (w.heap.size) rfl (.tmp 31) (.tmp 32) 22 5 (.int .u8 0) 1 rfl Tryd.underlying22 infoU8 rfl (by decide) (v1) (pr ++ b8) (ob) (Av) (ob.length) (cv) (fun _ => True) rfl rfl (fun _ _ => trivial) ?aO ?aR ?aB ?aS ?aL ?_; (case aO => exact HO2.out); (case aR => exact (Kd.R_reads' HV.out).2.2); (case aB => exact HW.out); (case aS => exact (below_size (by exact HW.out))); (case aL => (have := HPR.out; simp only [List.length_append] at this ⊢; omega)); intro v1 w1 ho hb hg hat; have HO3 := sd ho; replace HW := sd hb; clear ho hb hg hat))
    | (replace HN := HN; ((with_reducible refine gate_builtin (b := .append) (xs := #[.tmp 26, .tmp 30]) rfl ?_); at_builtin; refine Kd.R_append_row (Value.int .u8) (0 : Int) (h1 := fun _ => rfl) (w0 := w) (w.heap.size) rfl (.tmp 26) (.tmp 30) 22 5 (.int .u8 0) 1 rfl Tryd.underlying22 infoU8 rfl (by decide) (u4) (pr) (b8) (An) (b8.length) (cn) (fun _ => True) rfl rfl (fun _ _ => trivial) ?aO ?aR ?aB ?aS ?aL ?_; (case aO => exact HO.out); (case aR => exact (Kd.R_reads' HN.out).2.2); (case aB => exact HW.out); (case aS => exact (below_size (by exact HW.out))); (case aL => (have := HPR.out; simp only [List.length_append] at this ⊢; omega)); intro v1 w1 ho hb hg hat; have HO2 := sd ho; replace HW := sd hb; replace HV := sd (Kd.R_grown2 HV.out rfl hg HF.out); clear HN HO ho hb hg hat))
    | (go_at_call 66; refine (HNm.out _ HNC.out).mono ?_; rintro e w4 ⟨vn, rfl, hR, hB⟩; obtain ⟨An, cn, rfl⟩ := Kd.R_slice hR; have HN := sd (Kd.R_lower hR HW.out.size); replace HO := sd (Kd.R_below HO.out hB); replace HV := sd (Kd.R_below HV.out hB); replace HW := sd (below_step HW.out hB); clear hR hB))
   go_roundw
   case rel => exact ⟨j + 1, by omega, by go_num, ⟨by rw [HE.out]; exact HO3.out⟩, HW⟩
   case measure => simp [intOf]; omega
  ·obtain rfl : j = xs.length := by omega
   rw [List.take_length] at HO; go_wp2; go_ret2; exact ⟨u4, rfl, HO.out, HW.out⟩
end Go.Proofs.YtbplemhjhpfkgaaDoor.Cd
namespace Go.Proofs.YtbplemhjhpfkgaaDoor.Cd
open Go.RowKit YtbplemhjhpfkgaaDoorW.PrintWords YtbplemhjhpfkgaaDoorW.PrintLast YtbplemhjhpfkgaaDoorW.PrintMore Rd
open Go.Proofs.YtbplemhjhpfkgaaDoor.Ft (Door Chain new_chain kind_calls chain_iface)
set_option maxRecDepth 100000 in
set_option maxHeartbeats 16000000 in
theorem all_bad (A : Option Addr) (c : Nat) (xs : List OpX) (n : Nat) (w : World) (hr : Kd.C kOp w A xs.length xs) (hl : ∀ x ∈ xs, LiesX w x) (hb : ∀ x ∈ xs, Byt x.1.r) (hR : ∀ i x, i < n → xs[i]? = some x → rightD x.1 = true) (hbad : ∀ x, xs[n]? = some x → rightD x.1 = false) (hnl : n < xs.length) (hn : xs.length ≤ 100) :
  Calls Tryd.prog 32 #[.slice A xs.length c] w fun e w' => ∃ u, e = .returned (.tuple #[.slice none 0 0, u]) ∧ Chain w' [(⟨#[115, 99, 114, 105, 112, 116]⟩, (n : Int)), (⟨#[99, 111, 100, 101]⟩, 0)] 1 u ∧ Below w.heap.size w w' := by
 have HR := sd hr; have HL := sd hl; have HBy := sd hb; have HRt := sd hR; have HBad := sd hbad
 have HLe : Hid (∀ j, j ≤ n → (allB (xs.take j)).length ≤ 30000800) := Lib.hid (fun j hj => by
  have h1 := allB_le (xs := xs.take j) (fun y hy => by
   obtain ⟨i, hi, rfl⟩ := List.getElem_of_mem hy; rw [List.length_take] at hi; exact hR i _ (by omega) (by rw [List.getElem_take]; exact List.getElem?_eq_getElem _))
  rw [List.length_take] at h1; have : min j xs.length ≤ 100 := by omega
  omega)
 clear hr hl hb hR hbad
 go_enter Tryd.func32, Tryd.ntmps32
 go_upto_region 3 with fail
 go_loopw [4, 11] (fun v i wr => ∃ j : Nat, j ≤ n ∧ i = .int .i64 (j : Int) ∧ Aside0 (Kd.R (Kd.int .u8) 5 wr w.heap.size (fun _ => True) v (allB (xs.take j))) ∧ Aside0 (Below w.heap.size w wr)) (fun _ i _ => xs.length - (intOf i).toNat)
 case atStart => exact ⟨0, Nat.zero_le _, rfl, ⟨Kd.R_nil _ _ _ _ _⟩, ⟨Below.refl _ _⟩⟩
 case round =>
  obtain ⟨j, hj, rfl, HO, HW⟩ := hrel
  by_cases hltn : j < n
  ·have hlt : j < xs.length := Nat.lt_trans hltn hnl; obtain ⟨ad, ⟨o, ⟨A6, m6⟩, ⟨A7, m7⟩, ⟨A8, m8⟩⟩, rfl, hx, d0, d1, d2, d3, d4, d5, d6, d7, d8⟩ := at_Op (Kd.C_below HR.out HW.out) j hlt; have hmem := List.mem_of_getElem? hx; have HLx := sd (show Lies wr o A6 A7 A8 from Lies.below (HL.out _ hmem) HW.out); have HBx : Hid (Byt o.r) := Lib.hid (HBy.out _ hmem); have HRx : Hid (rightD o = true) := Lib.hid (HRt.out j _ hltn hx); obtain ⟨ob, hob⟩ : ∃ ob, oBy o = ob := ⟨_, rfl⟩; have HE : Hid (allB (xs.take (j + 1)) = allB (xs.take j) ++ be8s [(ob.length : Int)] ++ ob) := Lib.hid (by rw [allB_take hx, be8s_oneL]; simp only [hob]); have hpl := HLe.out j hj; have hol : ob.length ≤ 300000 := by rw [← hob]; exact oBy_le HRx.out
   have HOB := Lib.hid hob
   dsimp only at d0 d1 d2 d3 d4 d5 d6 d7 d8
   clear hx hmem hob; generalize allB (xs.take j) = pr at HO HE hpl; have HQ := sd (blk_new wr (.cells #[.int .i64 o.k, .int .i64 o.c, .int .i64 o.q, .int .i64 o.h, .int .i64 o.a, .int .i64 o.t, .slice A6 o.p.length m6, .slice A7 o.s.length m7, .slice A8 o.r.length m8] 30)); have HL2 := sd (Lies.below HLx.out (below_alloc (Below.refl wr.heap.size wr) (.cells #[.int .i64 o.k, .int .i64 o.c, .int .i64 o.q, .int .i64 o.h, .int .i64 o.a, .int .i64 o.t, .slice A6 o.p.length m6, .slice A7 o.s.length m7, .slice A8 o.r.length m8] 30))); replace HO := sd (Kd.R_alloc HO.out (.cells #[.int .i64 o.k, .int .i64 o.c, .int .i64 o.q, .int .i64 o.h, .int .i64 o.a, .int .i64 o.t, .slice A6 o.p.length m6, .slice A7 o.s.length m7, .slice A8 o.r.length m8] 30)); replace HW := sd (below_alloc HW.out (.cells #[.int .i64 o.k, .int .i64 o.c, .int .i64 o.q, .int .i64 o.h, .int .i64 o.a, .int .i64 o.t, .slice A6 o.p.length m6, .slice A7 o.s.length m7, .slice A8 o.r.length m8] 30)); clear HLx
   go_upto_region 5 with fail
   clear d0 d1 d2 d3 d4 d5 d6 d7 d8; generalize (wr.alloc (.cells #[.int .i64 o.k, .int .i64 o.c, .int .i64 o.q, .int .i64 o.h, .int .i64 o.a, .int .i64 o.t, .slice A6 o.p.length m6, .slice A7 o.s.length m7, .slice A8 o.r.length m8] 30)) = wa at *; generalize wr.heap.size = bq at *; obtain ⟨q0, q1, q2, q3, q4, q5, q6, q7, q8⟩ := bl9 HQ.out; have hlq := blk_lt HQ.out
   go_upto_region 8 with (go_at_call 14; refine (enc_right o A6 m6 A7 m7 A8 m8 _ HL2.out HBx.out HRx.out).mono ?_; rintro e w3 ⟨vb, rfl, hR, hB⟩; replace hR : Kd.R (Kd.int .u8) 5 w3 wa.heap.size (fun _ => True) vb (oBy o) := hR; rw [HOB.out] at hR; obtain ⟨Av, cv, rfl, hcv, hCv⟩ := Kd.R_reads hR; have HF := sd (far_new (Kd.R_lt HO.out) (Kd.R_base hR)); have HV := sd (Kd.R_lower hR HW.out.size); replace HO := sd (Kd.R_below HO.out hB); replace HW := sd (below_step HW.out hB); clear hR hB hCv)
   clear q0 q1 q2 q3 q4 q5 q6 q7 q8 hlq HQ HL2 HOB HBx HRx; have hpr2 : (pr ++ be8s [(ob.length : Int)]).length ≤ 30000808 := by rw [List.length_append, be8s_len]; simp; omega
   have HNC := sd (C_lit .i64 [(ob.length : Int)] w3 3 (by simp)); replace HO := sd (Kd.R_alloc HO.out (.cells #[.int .i64 (ob.length : Int)] 3)); replace HV := sd (Kd.R_alloc HV.out (.cells #[.int .i64 (ob.length : Int)] 3)); replace HW := sd (below_alloc HW.out (.cells #[.int .i64 (ob.length : Int)] 3)); have hb8 : (be8s [(ob.length : Int)]).length = 8 := by rw [be8s_len]; rfl
   have HNm : Hid (∀ W, Kd.C (Kd.int .i64) W (some ⟨w3.heap.size, 0, none⟩) 1 [(ob.length : Int)] → Calls Tryd.prog 66 #[.slice (some ⟨w3.heap.size, 0, none⟩) 1 1] W fun e w' => ∃ v, e = .returned v ∧ Kd.R (Kd.int .u8) 5 w' W.heap.size (fun _ => True) v (be8s [(ob.length : Int)]) ∧ Below W.heap.size W w') := Lib.hid (fun W h => num_calls (some ⟨w3.heap.size, 0, none⟩) 1 [(ob.length : Int)] W h (by simp)); generalize be8s [(ob.length : Int)] = b8 at *; have HPR := sd hpr2; have HB8 := Lib.hid hb8; clear hpr2 hb8
   go_wp2_with (first
    | (replace HO2 := HO2; ((with_reducible refine gate_builtin (b := .append) (xs := #[.tmp 31, .tmp 32]) rfl ?_); at_builtin; refine Kd.R_append_row (Value.int .u8) (0 : Int) (h1 := fun _ => rfl) (w0 := w) (w.heap.size) rfl (.tmp 31) (.tmp 32) 22 5 (.int .u8 0) 1 rfl Tryd.underlying22 infoU8 rfl (by decide) (v1) (pr ++ b8) (ob) (Av) (ob.length) (cv) (fun _ => True) rfl rfl (fun _ _ => trivial) ?aO ?aR ?aB ?aS ?aL ?_; (case aO => exact HO2.out); (case aR => exact (Kd.R_reads' HV.out).2.2); (case aB => exact HW.out); (case aS => exact (below_size (by exact HW.out))); (case aL => (have := HPR.out; simp only [List.length_append] at this ⊢; omega)); intro v1 w1 ho hb hg hat; have HO3 := sd ho; replace HW := sd hb; clear ho hb hg hat))
    | (replace HN := HN; ((with_reducible refine gate_builtin (b := .append) (xs := #[.tmp 26, .tmp 30]) rfl ?_); at_builtin; refine Kd.R_append_row (Value.int .u8) (0 : Int) (h1 := fun _ => rfl) (w0 := w) (w.heap.size) rfl (.tmp 26) (.tmp 30) 22 5 (.int .u8 0) 1 rfl Tryd.underlying22 infoU8 rfl (by decide) (u4) (pr) (b8) (An) (b8.length) (cn) (fun _ => True) rfl rfl (fun _ _ => trivial) ?aO ?aR ?aB ?aS ?aL ?_; (case aO => exact HO.out); (case aR => exact (Kd.R_reads' HN.out).2.2); (case aB => exact HW.out); (case aS => exact (below_size (by exact HW.out))); (case aL => (have := HPR.out; simp only [List.length_append] at this ⊢; omega)); intro v1 w1 ho hb hg hat; have HO2 := sd ho; replace HW := sd hb; replace HV := sd (Kd.R_grown2 HV.out rfl hg HF.out); clear HN HO ho hb hg hat))
    | (go_at_call 66; refine (HNm.out _ HNC.out).mono ?_; rintro e w4 ⟨vn, rfl, hR, hB⟩; obtain ⟨An, cn, rfl⟩ := Kd.R_slice hR; have HN := sd (Kd.R_lower hR HW.out.size); replace HO := sd (Kd.R_below HO.out hB); replace HV := sd (Kd.R_below HV.out hB); replace HW := sd (below_step HW.out hB); clear hR hB))
   go_roundw
   case rel => exact ⟨j + 1, by omega, by go_num, ⟨by rw [HE.out]; exact HO3.out⟩, HW⟩
   case measure => simp [intOf]; omega
  ·obtain rfl : j = n := by omega
   have hlt := hnl; obtain ⟨ad, ⟨o, ⟨A6, m6⟩, ⟨A7, m7⟩, ⟨A8, m8⟩⟩, rfl, hx, d0, d1, d2, d3, d4, d5, d6, d7, d8⟩ := at_Op (Kd.C_below HR.out HW.out) j hlt; have hmem := List.mem_of_getElem? hx; have HLx := sd (show Lies wr o A6 A7 A8 from Lies.below (HL.out _ hmem) HW.out); have HBx : Hid (Byt o.r) := Lib.hid (HBy.out _ hmem)
   dsimp only at d0 d1 d2 d3 d4 d5 d6 d7 d8
   have HRF : Hid (rightD o = false) := Lib.hid (HBad.out _ hx); clear hx hmem HO; have HQ := sd (blk_new wr (.cells #[.int .i64 o.k, .int .i64 o.c, .int .i64 o.q, .int .i64 o.h, .int .i64 o.a, .int .i64 o.t, .slice A6 o.p.length m6, .slice A7 o.s.length m7, .slice A8 o.r.length m8] 30)); have HL2 := sd (Lies.below HLx.out (below_alloc (Below.refl wr.heap.size wr) (.cells #[.int .i64 o.k, .int .i64 o.c, .int .i64 o.q, .int .i64 o.h, .int .i64 o.a, .int .i64 o.t, .slice A6 o.p.length m6, .slice A7 o.s.length m7, .slice A8 o.r.length m8] 30))); replace HW := sd (below_alloc HW.out (.cells #[.int .i64 o.k, .int .i64 o.c, .int .i64 o.q, .int .i64 o.h, .int .i64 o.a, .int .i64 o.t, .slice A6 o.p.length m6, .slice A7 o.s.length m7, .slice A8 o.r.length m8] 30)); clear HLx
   go_upto_region 5 with fail
   clear d0 d1 d2 d3 d4 d5 d6 d7 d8; generalize (wr.alloc (.cells #[.int .i64 o.k, .int .i64 o.c, .int .i64 o.q, .int .i64 o.h, .int .i64 o.a, .int .i64 o.t, .slice A6 o.p.length m6, .slice A7 o.s.length m7, .slice A8 o.r.length m8] 30)) = wa at *; generalize wr.heap.size = bq at *; obtain ⟨q0, q1, q2, q3, q4, q5, q6, q7, q8⟩ := bl9 HQ.out; have hlq := blk_lt HQ.out
   go_wp2_with (first
    | (replace HX9 := HX9; go_at_call 44; refine (new_chain HCh.out).mono ?_; rintro e w4 ⟨u2, rfl, hch, hB⟩; have HCh2 := sd hch; replace HW := sd (below_step HW.out hB); clear hch hB)
    | (go_at_call 14; refine (enc_wrong o A6 m6 A7 m7 A8 m8 _ HL2.out HBx.out HRF.out).mono ?_; rintro e w3 ⟨u1, rfl, hc1, hB⟩; obtain ⟨te, ze, rfl⟩ := chain_iface hc1; have HCh := sd hc1; replace HW := sd (below_step HW.out hB); have HX9 := sd True.intro; clear hc1 hB))
   go_ret2; exact ⟨u2, rfl, HCh2.out, HW.out⟩
end Go.Proofs.YtbplemhjhpfkgaaDoor.Cd
namespace Go.Proofs.YtbplemhjhpfkgaaDoor.Wr
open Go.RowKit YtbplemhjhpfkgaaDoorW.PrintWords YtbplemhjhpfkgaaDoorW.PrintLast YtbplemhjhpfkgaaDoorW.PrintMore Rd
open Go.Proofs.YtbplemhjhpfkgaaDoor.Cd (Co At kCo kAt at_Co at_At nilCo nilAt)
open PCodeKinds
theorem msgB_255 {m : MsgD} (h : rightM m = true) : (msgB m).length ≤ 255 := by
 obtain ⟨h5, h6⟩ := five_p h; have hp := flat_short cW 30 m.p (fun x hx => cW_short (pred_each (isRight h).p x hx)); have hs := flat_short aW 30 m.s (fun x hx => aW_short (tup_each (isRight h).s x hx)); have hi := iB_le m.k m.ic m.is; have hk := (isRight h).k
 have hpb : (pB m.k m.p).length ≤ 151 := by
  unfold pB
  split
  ·rw [List.length_append, List.length_singleton]; omega
  ·simp
 have hsb : (sB m.k m.s).length ≤ 151 := by
  unfold sB
  split
  ·rw [List.length_append, List.length_singleton]; omega
  ·simp
 have hx : (pB m.k m.p).length = 0 ∨ (sB m.k m.s).length = 0 := by
  obtain e | e | e | e | e : m.k = 1 ∨ m.k = 2 ∨ m.k = 3 ∨ m.k = 4 ∨ m.k = 5 := by omega
  all_goals simp [pB, sB, asksP, asksS, e]
 unfold msgB; simp only [List.length_append, be8s_len, List.length_cons, List.length_nil]; omega
theorem okC_of {x : Co} (h : oneOk x = true) : Cd.okC x = true := by
 obtain ⟨h1, h2⟩ := co_short h; obtain ⟨n, k, lo, hi, t⟩ := x; refine decide_eq_true ⟨by show n.size ≤ 255; simp at h1; omega, by show t.size ≤ 255; simp at h2; omega, ?_⟩; unfold oneOk at h; rw [Bool.and_eq_true] at h; have h3 := h.2
 show 0 ≤ k ∧ k ≤ 255
 split at h3
 ·rename_i e; have e1 : k = _ := e; omega
 ·split at h3
  ·rename_i e; have e1 : k = _ := e; omega
  ·split at h3
   ·rename_i e; have e1 : k = _ := e; omega
   ·cases h3
theorem okA_of {x : At} (h : (nameOk x.1 && valOk x.2.1 x.2.2.1 x.2.2.2) = true) : Cd.okA x = true := by
 obtain ⟨h1, h2⟩ := at_short h; exact decide_eq_true ⟨by omega, by omega⟩
theorem kp_calls (A : Option Addr) (c : Nat) (l0 : List Int) (B : Option Addr) (d : Nat) (l1 : List Int) (w : World) (h0 : Kd.C (Kd.int .i64) w A l0.length l0) (hc : l0.length ≤ c) (h1 : Kd.C (Kd.int .i64) w B l1.length l1) (hd : l1.length ≤ d) :
  Calls Tryd.prog 16 #[.agg #[.slice A l0.length c, .slice B l1.length d]] w fun e w' => ∃ D m p, e = .returned (.slice D p.length m) ∧ Past w.heap.size D ∧ Kd.C kCo w' D p.length p ∧ p.length ≤ 5 ∧ p.all Cd.okC = true ∧ (∀ x ∈ p, Cd.WfC x) ∧ Below w.heap.size w w' := by
 obtain ⟨r, hf, h2, _, h4⟩ := pred15 l0 l1; refine (broadsidekeep_Pred_Pred.calls 15 A c l0 B d l1 r w h0 hc h1 hd hf).mono ?_; rintro e w' ⟨v, rfl, hR, hb⟩; obtain ⟨D, m, rfl, hm, hC⟩ := Kd.R_reads hR; refine ⟨D, m, r.map toCo, by rw [List.length_map], past_of hR, by rw [List.length_map]; exact C_Co hC, ?_, ?_, h4, hb⟩
 ·simp only [predOk, Bool.and_eq_true, decide_eq_true_iff] at h2; omega
 ·rw [List.all_eq_true]; exact fun x hx => okC_of (pred_each h2 x hx)
theorem kt_calls (A : Option Addr) (c : Nat) (l0 : List Int) (B : Option Addr) (d : Nat) (l1 : List Int) (w : World) (h0 : Kd.C (Kd.int .i64) w A l0.length l0) (hc : l0.length ≤ c) (h1 : Kd.C (Kd.int .i64) w B l1.length l1) (hd : l1.length ≤ d) :
  Calls Tryd.prog 17 #[.agg #[.slice A l0.length c, .slice B l1.length d]] w fun e w' => ∃ D m s, e = .returned (.slice D s.length m) ∧ Past w.heap.size D ∧ Kd.C kAt w' D s.length s ∧ s.length ≤ 5 ∧ s.all Cd.okA = true ∧ (∀ x ∈ s, Cd.WfA x) ∧ Below w.heap.size w w' := by
 obtain ⟨r, hf, h2, _, h4⟩ := tup15 l0 l1; refine (broadsidekeep_Tuple_Tuple.calls 15 A c l0 B d l1 r w h0 hc h1 hd hf).mono ?_; rintro e w' ⟨v, rfl, hR, hb⟩; obtain ⟨D, m, rfl, hm, hC⟩ := Kd.R_reads hR; refine ⟨D, m, r.map toAt, by rw [List.length_map], past_of hR, by rw [List.length_map]; exact C_At hC, ?_, ?_, h4, hb⟩
 ·simp only [tupOk, Bool.and_eq_true, decide_eq_true_iff] at h2; omega
 ·rw [List.all_eq_true]; exact fun x hx => okA_of (tup_each h2 x hx)
theorem kbytes_calls (m : MsgD) (A5 : Option Addr) (m5 : Nat) (A6 : Option Addr) (m6 : Nat) (w : World) (h : LiesM w m A5 A6) (hr : rightM m = true) :
  Calls Tryd.prog 69 #[mW m A5 m5 A6 m6] w fun e w' => ∃ (D : Option Addr) (c : Nat), e = .returned (.slice D (msgB m).length c) ∧ Past w.heap.size D ∧ Kd.C (Kd.int .u8) w' D (msgB m).length (msgB m) ∧ Below w.heap.size w w' := by
 obtain ⟨h5, h6⟩ := five_p hr; have HBx := sd (below_alloc (Below.refl w.heap.size w) (.cells #[.int .i64 m.k, .int .i64 m.tc, .int .i64 m.ts, .int .i64 m.ic, .int .i64 m.is, .slice A5 m.p.length m5, .slice A6 m.s.length m6] 50)); have HL := sd (LiesM.below h HBx.out); obtain ⟨bs, hbs⟩ : ∃ b, msgB m = b := ⟨_, rfl⟩
 have HC : Hid (∀ W, LiesM W m A5 A6 → Calls Tryd.prog 43 #[.agg #[.int .i64 m.k, .int .i64 m.tc, .int .i64 m.ts, .int .i64 m.ic, .int .i64 m.is, .slice A5 m.p.length m5, .slice A6 m.s.length m6]] W fun e w' => ∃ (D : Option Addr) (c : Nat), e = .returned (.slice D bs.length c) ∧ Past W.heap.size D ∧ Kd.C (Kd.int .u8) w' D bs.length bs ∧ Below W.heap.size W w') := Lib.hid (fun W hL => by
  refine (rbytes_calls m A5 m5 A6 m6 W hL (sh_right hr) (decide_eq_true (isRight hr).k) (by omega) (by omega)).mono ?_; rintro e w' ⟨v, rfl, hR, hB⟩; rw [hbs] at hR; obtain ⟨B, n, rfl, _, hC⟩ := Kd.R_reads hR; exact ⟨B, n, rfl, past_of hR, hC, hB⟩)
 rw [hbs]; clear h hr hbs h5 h6
 go_enter Tryd.func69, Tryd.ntmps69
 go_wp2_with (go_at_call 43; refine (HC.out _ HL.out).mono ?_; rintro e w2 ⟨D, c, rfl, hP, hC, hB⟩; have HP := sd hP; have HC2 := sd hC; have HB2 := sd hB; clear hP hC hB); go_ret; exact ⟨D, c, rfl, HP.out.le (below_alloc (Below.refl w.heap.size w) _).size, HC2.out, below_step HBx.out HB2.out⟩
end Go.Proofs.YtbplemhjhpfkgaaDoor.Wr
namespace Go.Proofs.YtbplemhjhpfkgaaDoor.Gr
open Go.RowKit Go.ChangeShapes YtbplemhjhpfkgaaDoorW.PrintWords YtbplemhjhpfkgaaDoorW.PrintLast YtbplemhjhpfkgaaDoorW.PrintMore Rd
open Go.Proofs.YtbplemhjhpfkgaaDoor.Cd (InI64)
theorem laidOut : laidOutB Tryd.prog = true := by kernel_rfl
def OwnM (w : World) (b n : Nat) : Prop := ∃ D : DataW Unit, w.ownsMap Tryd.prog 128 (plainElem Tryd.prog 4) b n D
theorem OwnM.made (w : World) : OwnM (w.alloc (.map #[] 0)) w.heap.size 0 := ⟨.map [], World.ownsMap_made _ _ _ _⟩
theorem OwnM.kept {w w' : World} {b n : Nat} {row : Option Nat} (h : OwnM w b n) (hg : w.grownBy w' row) (hne : some b ≠ row) : OwnM w' b n := by
 obtain ⟨D, h1⟩ := h; exact ⟨D, h1.kept hg hne⟩
theorem OwnM.alloc {w : World} {b n : Nat} (h : OwnM w b n) (o : Obj) : OwnM (w.alloc o) b n := h.kept (World.grownBy_alloc w o none) (by simp)
theorem OwnM.mono {w : World} {b n m : Nat} (h : OwnM w b n) (hn : n ≤ m) : OwnM w b m := by
 obtain ⟨D, h1⟩ := h; exact ⟨D, h1.mono hn⟩
theorem OwnM.lt {w : World} {b n : Nat} (h : OwnM w b n) : b < w.heap.size := by
 obtain ⟨D, h1⟩ := h; exact h1.lt
theorem plainElem_bool_inv {e : TypeId} {v : Value} {z : DataW Unit × List MemPlace} (he : Tryd.prog.underlying e = some .bool) (h : plainElem Tryd.prog e v = some z) : ∃ x, v = .bool x ∧ z = (.lit (.bool x), []) := by
 unfold plainElem at h; rw [he] at h; cases v <;> simp at h
 exact ⟨_, rfl, h.symm⟩
theorem prKeyed : Maps.Keyed Tryd.prog 128 := Maps.Keyed.of_law (deep_law_gate laidOut (of_decide_eq_true (by kernel_rfl)) (of_decide_eq_true (by kernel_rfl)) (by kernel_rfl) (by kernel_rfl))
theorem deepEnough : 2 ≤ Tryd.prog.types.size := of_decide_eq_true (by kernel_rfl)
theorem prKey (a b : Int) (ha : InI64 a) (hb : InI64 b) : ∃ l, keyOf Tryd.prog 128 (.agg #[.int .i64 a, .int .i64 b]) = some l := by
 have h1 : (Lit.int .i64 a).wf = true := Go.WalkArith.wf_i64 ha; have h2 : (Lit.int .i64 b).wf = true := Go.WalkArith.wf_i64 hb; have hkt : Tryd.prog.keyType 128 = true := by kernel_rfl
 have c1 : Tryd.prog.cellsOf 128 = 2 := by kernel_rfl
 have c3 : Tryd.prog.cellsOf 3 = 1 := by kernel_rfl
 obtain ⟨n, hn⟩ : ∃ n, Tryd.prog.types.size + 1 = n + 3 := ⟨Tryd.prog.types.size - 2, by have := deepEnough; omega⟩; unfold keyOf; rw [hn]
 simp [hkt, Value.formed, Tryd.underlying128, c1, Value.cells, Program.keyLits, Tryd.underlying3, c3, h1, h2, List.range_succ]
theorem OwnM.lookup {w : World} {m n : Nat} (h : OwnM w m n) (a b : Int) (ha : InI64 a) (hb : InI64 b) :
  ∃ r : Bool, (Instr.lookup 127 (.map (some m)) (.agg #[.int .i64 a, .int .i64 b]) false).run Tryd.prog w = .ok (.bool r) w := by
 obtain ⟨D, h1⟩ := h; obtain ⟨l, hk⟩ := prKey a b ha hb; obtain ⟨v, ps, hrun, hv⟩ := h1.lookup (t := 127) prKeyed Tryd.underlying127 (by kernel_rfl) (plainElem_bool Tryd.underlying4 false) hk; obtain ⟨y, rfl, hy⟩ := plainElem_bool_inv Tryd.underlying4 hv; exact ⟨y, hrun⟩
theorem OwnM.update {w : World} {m n : Nat} (h : OwnM w m n) (hn : n < maxLen) (a b : Int) (ha : InI64 a) (hb : InI64 b) (u : Bool) :
  ∃ w', (Instr.mapUpdate 127 (.map (some m)) (.agg #[.int .i64 a, .int .i64 b]) (.bool u)).run Tryd.prog w = .ok () w' ∧ OwnM w' m (n + 1) ∧ w.grownBy w' (some m) := by
 obtain ⟨D, h1⟩ := h; obtain ⟨l, hk⟩ := prKey a b ha hb; obtain ⟨w', hrun, hw', hg⟩ := h1.update (t := 127) prKeyed Tryd.underlying127 hn hk (plainElem_bool Tryd.underlying4 u); exact ⟨w', hrun, ⟨_, hw'⟩, hg⟩
theorem wpList_pr {ops : Array Oper} {rest : List Oper} {o : Oper} {a : Act} {Q : Exit → Act → World → Prop} {w w1 : World} {mb : Nat} {x y : Int} (hg : o.guard = none) (m kx v : Operand) (hop : o.op = Op.mapUpdate 127 m kx v)
  (hm : a.eval m = .map (some mb)) (hkx : a.eval kx = .agg #[.int .i64 x, .int .i64 y]) (hv : a.eval v = .bool true) (hrun : (Instr.mapUpdate 127 (.map (some mb)) (.agg #[.int .i64 x, .int .i64 y]) (.bool true)).run Tryd.prog w = .ok () w1)
  (hK : wpList Tryd.prog ops Q rest (a.put o.dst undef) w1) : wpList Tryd.prog ops Q (o :: rest) a w := by
 refine wpList_plain hg fun K' hK' => ?_
 unfold Oper.wp
 simp [execOp, hop, hm, hkx, hv, hrun, Result.andThen]
 exact hK' _ _ hK
theorem goesV_ {P : Program} {ops : Array Oper} {Q : Exit → Act → World → Prop} {oi : Oper} {N : Option Tmp} {a : Act} {w : World} {K : Act → World → Prop} {f : FuncId} {fn : Func} {t : Operand} {cap : Array Value} {aa : Array Operand} {ts : Array TypeId} (hf : P.funcs[f]? = some fn) (hname : (fn.name == "runtime.NumGoroutine") = false) (hb : fn.body.isSome = true) (args : Array Value)
  (hw : Region.wanted oi (yielded ops a.tmps) = true) (hN : oi.dst = N) (hop : oi.op = .call { callee := .value t, args := aa, argTypes := ts }) (hv : a.eval t = .func (.func f) #[] cap) (hargs : aa.map a.eval ++ cap = args)
  (h : Calls P f args w fun e w' => ∃ v, e = .returned v ∧ K (a.put N v) w') : if Region.wanted oi (yielded ops a.tmps) = true then Oper.wp P oi a w K Q else K (a.put N undef) w := by
 refine call_ f args hw hN ?_ h; have he := enters_ hf hname hb args w; unfold execOp
 simp [hop, resolve, Deferred.ofValue, invoke, hv, hargs, he]
end Go.Proofs.YtbplemhjhpfkgaaDoor.Gr
namespace Go.Proofs.YtbplemhjhpfkgaaDoor.Gr
open Go.RowKit Go.ChangeShapes YtbplemhjhpfkgaaDoorW.PrintWords YtbplemhjhpfkgaaDoorW.PrintLast YtbplemhjhpfkgaaDoorW.PrintMore Rd
open Go.Proofs.YtbplemhjhpfkgaaDoor.Cd (InI64 flat)
def kLk : Kd (Int × Int) := flat 2 (fun x => [.int .i64 x.1, .int .i64 x.2]) (fun _ => rfl) (by intro x u hu; simp at hu; rcases hu with rfl | rfl <;> rfl)
theorem infoLk : (Tryd.prog.info? 128).map (fun i => (i.zero, i.size, i.bytes)) = some (some (.agg #[.int .i64 0, .int .i64 0]), 2, 16) := by kernel_rfl
structure GW (w0 W : World) (gg gm mb n : Nat) (B : Int) (AL : Option Addr) (cL : Nat) (ls : List (Int × Int)) : Prop where
 below : Below w0.heap.size w0 W
 g : W.heap[gg]? = some (.cells #[.int .i64 B, .slice AL ls.length cL] 80 (0, 0))
 m : W.heap[gm]? = some (.cells #[.map (some mb)] 127 (0, 0))
 own : OwnM W mb n
 row : Kd.R kLk 128 W w0.heap.size (fun k => k ≠ gg ∧ k ≠ gm ∧ k ≠ mb) (.slice AL ls.length cL) ls
 ng : w0.heap.size ≤ gg
 nm : w0.heap.size ≤ gm
 nb : w0.heap.size ≤ mb
 d1 : gg ≠ gm
 d2 : gg ≠ mb
 d3 : gm ≠ mb
 few : ls.length ≤ n
theorem GW.move {w0 W W1 : World} {gg gm mb n : Nat} {B : Int} {AL : Option Addr} {cL : Nat} {ls : List (Int × Int)} (h : GW w0 W gg gm mb n B AL cL ls) (hb : Below W.heap.size W W1) : GW w0 W1 gg gm mb n B AL cL ls :=
 ⟨below_step h.below hb, blk_below h.g hb, blk_below h.m hb, by
  obtain ⟨D, es, clock, hblk, F⟩ := h.own; exact ⟨D, es, clock, blk_below hblk hb, F⟩, Kd.R_below h.row hb, h.ng, h.nm, h.nb, h.d1, h.d2, h.d3, h.few⟩
set_option maxRecDepth 100000 in
set_option maxHeartbeats 16000000 in
theorem put_calls (a b B : Int) (w0 W : World) (gg gm mb n : Nat) (AL : Option Addr) (cL : Nat) (ls : List (Int × Int)) (ha : InI64 a) (hb : InI64 b) (h : GW w0 W gg gm mb n B AL cL ls) (hn : n ≤ 1000) :
  Calls Tryd.prog 68 #[.int .i64 a, .int .i64 b, .pointer (some ⟨gm, 0, none⟩), .pointer (some ⟨gg, 0, none⟩)] W fun e w' => e = .returned (.tuple #[]) ∧ ∃ AL' cL' ls', GW w0 w' gg gm mb (n + 1) B AL' cL' ls' := by
 obtain ⟨r1, hl1⟩ := h.own.lookup a b ha hb; obtain ⟨r2, hl2⟩ := h.own.lookup b a hb ha; have q0 := (blk_cell h.m 0).trans (rfl : _ = some (Value.map (some mb))); have q1 := (blk_cell h.g 1).trans (rfl : _ = some (Value.slice AL ls.length cL)); have H := sd h; have HA := sd ha; have HB := sd hb; have HN := Lib.hid hn; have hpost : Aside0 (∃ AL' cL' ls', GW w0 W gg gm mb (n + 1) B AL' cL' ls') := ⟨AL, cL, ls, h.below, h.g, h.m, h.own.mono (Nat.le_succ n), h.row, h.ng, h.nm, h.nb, h.d1, h.d2, h.d3, Nat.le_succ_of_le h.few⟩; clear h ha hb hn
 by_cases hab : a = b
 ·subst hab
  go_enter Tryd.func68, Tryd.ntmps68
  go_wp2
  go_end0
  exact ⟨rfl, hpost.out⟩
 ·have hne : (a == b) = false := by simp [hab]
  cases r1 with
  | true =>
   go_enter Tryd.func68, Tryd.ntmps68
   go_wp2
   go_end0
   exact ⟨rfl, hpost.out⟩
  | false =>
   cases r2 with
   | true =>
    go_enter Tryd.func68, Tryd.ntmps68
    go_wp2
    go_end0
    exact ⟨rfl, hpost.out⟩
   | false =>
    go_enter Tryd.func68, Tryd.ntmps68
    go_upto_region 1 with fail
    obtain ⟨w1, hup, hown, hgr⟩ := H.out.own.update (by have := HN.out; unfold maxLen; omega) a b HA.out HB.out true; clear hl1 hl2 hpost q1; have HUP := Lib.hid hup; clear hup
    go_upto_region 2 with (at_mapUpdate; refine wpList_pr (x := a) (y := b) rfl _ _ _ rfl rfl rfl rfl HUP.out ?_)
    have hrow1 := Kd.R_grown H.out.row hgr (fun k hk e => hk.2.2 (Option.some.inj e)); have hg1 := (hgr.block gg (blk_lt H.out.g) (fun e => H.out.d2 (Option.some.inj e))).trans H.out.g; have hm1 := (hgr.block gm (blk_lt H.out.m) (fun e => H.out.d3 (Option.some.inj e))).trans H.out.m; have hB1 := pw_below_grown H.out.below _ H.out.below.size hgr (fun j hj => by injection hj with hj; rw [← hj]; exact H.out.nb)
    have HF : Hid (∀ k, w1.heap.size ≤ k → k ≠ gg ∧ k ≠ gm ∧ k ≠ mb) := Lib.hid (fun k hk => by
     have h1 := blk_lt hg1; have h2 := blk_lt hm1; have h3 := hown.lt; exact ⟨by omega, by omega, by omega⟩)
    have hl1000 : ls.length ≤ 1000 := Nat.le_trans H.out.few HN.out; have HO := sd hrow1; have HG1 := sd hg1; have HM1 := sd hm1; have HOW := sd hown; have HB1 := sd hB1; clear hrow1 hg1 hm1 hown hB1 hgr HUP q0; have q1 := (blk_cell HG1.out 1).trans (rfl : _ = some (Value.slice AL ls.length cL)); go_wp2_with ((with_reducible refine gate_builtin (b := .append) (xs := #[.tmp 30, .tmp 34]) rfl ?_); at_builtin; refine Kd.R_append kLk (w0 := w0) w0.heap.size rfl (.tmp 30) (.tmp 34) 78 128 (.agg #[.int .i64 0, .int .i64 0]) 16 rfl Tryd.underlying78 infoLk rfl (by decide) (by omega) (.slice AL ls.length cL) ls (a, b) [.int .i64 a, .int .i64 b] (fun k => k ≠ gg ∧ k ≠ gm ∧ k ≠ mb) (fun _ => False) rfl ?aX ?aP (fun _ hk => hk.elim) ?aF ?aO ?aB ?aS ?aL ?_; (case aX => first | rfl | (simp [Act.eval]; done)); (case aP => exact rfl); (case aF => exact HF.out); (case aO => exact HO.out); (case aB => exact HB1.out); (case aS => exact HB1.out.size); (case aL => omega); intro v1 w2 ho hb hg hat; obtain ⟨A1, c1, rfl⟩ := Kd.R_slice ho; have hng : ∀ k, (k = gg ∨ k = gm ∨ k = mb) → some k ≠ (Value.slice AL ls.length cL).ownBlock := (fun k hk e => by have h3 := HO.out.1 k e.symm; rcases hk with rfl | rfl | rfl; exact h3.1 rfl; exact h3.2.1 rfl; exact h3.2.2 rfl); have hg2 := (hg.block gg (blk_lt HG1.out) (hng gg (.inl rfl))).trans HG1.out; have HM2 := sd ((hg.block gm (blk_lt HM1.out) (hng gm (.inr (.inl rfl)))).trans HM1.out); have HOW2 := sd (HOW.out.kept hg (hng mb (.inr (.inr rfl)))); have HO2 := sd ho; have HB2 := sd hb; have q3 := (blk_cell hg2 1).trans (rfl : _ = some (Value.slice AL ls.length cL)); have f3 := blk_frozen hg2 1; have hl3 := blk_lt hg2; have HG2 := sd hg2; clear hg2 ho hb hg hat hng q1)
    go_end0
    rw [show ls.length + 1 = (ls ++ [(a, b)]).length from (by simp)]; have hk := (KeepBut.refl w2 gg none).set_ 1 (.slice A1 (ls ++ [(a, b)]).length c1); refine ⟨rfl, A1, c1, ls ++ [(a, b)], below_set HB2.out H.out.ng, blk_put HG2.out 1 _ rfl, KeepBut.blk hk HM2.out (Ne.symm H.out.d1) (by simp), ?_, Kd.R_keep HO2.out hk (fun k h => h.1), H.out.ng, H.out.nm, H.out.nb, H.out.d1, H.out.d2, H.out.d3, ?_⟩
    ·obtain ⟨D, es, clock, hblk, F⟩ := HOW2.out; exact ⟨D, es, clock, (KeepBut.blk hk hblk (Ne.symm H.out.d2) (by simp)), F⟩
    ·rw [List.length_append, List.length_singleton]; exact Nat.succ_le_succ H.out.few
end Go.Proofs.YtbplemhjhpfkgaaDoor.Gr

namespace Go.Proofs.YtbplemhjhpfkgaaDoor.Cd
open Go.RowKit YtbplemhjhpfkgaaDoorW.PrintWords YtbplemhjhpfkgaaDoorW.PrintLast YtbplemhjhpfkgaaDoorW.PrintMore Rd
attribute [local go_sem] max2_int min2_int max_two min_two max_three min_three max_four min_four
def tmReg.T1 : Bool × List (List Nat × List Nat) := (true, [([], []), ([], []), ([1], [1]), ([], []), ([3], [3]), ([4], [4]), ([5], [5]), ([2, 6], [2, 6]), ([0, 7], [0, 7]), ([], []), ([], []), ([10], [10]), ([], []), ([12], [12]), ([13], [13]), ([14], [14]), ([11, 15], [11, 15]), ([9, 16, 8], [9, 16]), ([], []), ([], []), ([19], [19]), ([], []), ([21], [21]), ([22], [22]), ([23], [23]), ([20, 24], [20, 24]), ([18, 25, 17], [18, 25]), ([0, 1, 2, 3, 4, 5, 6, 7, 8, 10, 11, 12, 13, 19, 20, 21, 22], []), ([27, 8, 26, 0, 1, 2, 3, 4, 5, 6, 7, 8, 10, 11, 12, 13, 19, 20, 21, 22], [8, 27]), ([0, 1, 2, 3, 4, 5, 6, 7, 8, 9, 10, 11, 12, 13, 14, 15, 16, 17, 19, 20, 21, 22, 27, 28], []), ([29, 17, 28, 0, 1, 2, 3, 4, 5, 6, 7, 8, 9, 10, 11, 12, 13, 14, 15, 16, 17, 19, 20, 21, 22, 27, 28], [17, 29]), ([0, 1, 2, 3, 4, 5, 6, 7, 8, 9, 10, 11, 12, 13, 14, 15, 16, 17, 18, 19, 20, 21, 22, 23, 24, 25, 26, 27, 28, 29, 30], []), ([31, 26, 30, 0, 1, 2, 3, 4, 5, 6, 7, 8, 9, 10, 11, 12, 13, 14, 15, 16, 17, 18, 19, 20, 21, 22, 23, 24, 25, 26, 27, 28, 29, 30], [26, 31])])
def tmReg.B1 : List Nat := [0, 0, 2, 0, 8, 24, 56, 126, 255, 0, 0, 1024, 0, 4096, 12288, 28672, 64512, 131071, 0, 0, 524288, 0, 2097152, 6291456, 14680064, 33030144, 67108863, 7880191, 268435455, 536870911, 1073741823, 2147483647, 4294967295]
theorem tmReg.tab1 : rtab .any (opsOf Tryd.f28 1) = tmReg.T1 := by kernel_rfl
theorem tmReg.bits1 : waitsOk tmReg.T1.2 tmReg.B1 = true := by kernel_rfl
def tm5Reg.T5 : Bool × List (List Nat × List Nat) := (true, [([], []), ([0], [0]), ([], []), ([], []), ([3], [3]), ([], []), ([], []), ([6], [6]), ([], []), ([7, 8], [7, 8]), ([9], [9]), ([10], [10]), ([], []), ([12], [12]), ([], []), ([13, 14], [13, 14]), ([15], [15]), ([16], [16]), ([17], [17]), ([18], [18]), ([11, 19], [11, 19]), ([], []), ([21], [21]), ([], []), ([22, 23], [22, 23]), ([24], [24]), ([25], [25]), ([], []), ([27], [27]), ([], []), ([28, 29], [28, 29]), ([30], [30]), ([31], [31]), ([32], [32]), ([33], [33]), ([26, 34], [26, 34]), ([1, 2, 0, 1, 2, 6, 7, 8, 9, 10, 11, 12, 13, 14, 15, 16, 17, 18, 19, 20, 26, 32], [1, 2]), ([36, 0, 1, 2, 6, 7, 8, 9, 10, 11, 12, 13, 14, 15, 16, 17, 18, 19, 20, 26, 32], [36]), ([37, 20, 0, 1, 2, 6, 7, 8, 9, 10, 11, 12, 13, 14, 15, 16, 17, 18, 19, 20, 26, 32], [20, 37]), ([4, 5, 0, 1, 2, 3, 4, 5, 6, 7, 8, 9, 10, 11, 12, 13, 14, 15, 16, 17, 18, 19, 20, 21, 22, 23, 24, 25, 26, 27, 28, 29, 30, 31, 32, 33, 34, 35, 36, 37, 38], [4, 5]), ([39, 0, 1, 2, 3, 4, 5, 6, 7, 8, 9, 10, 11, 12, 13, 14, 15, 16, 17, 18, 19, 20, 21, 22, 23, 24, 25, 26, 27, 28, 29, 30, 31, 32, 33, 34, 35, 36, 37, 38], [39]), ([40, 35, 38, 0, 1, 2, 3, 4, 5, 6, 7, 8, 9, 10, 11, 12, 13, 14, 15, 16, 17, 18, 19, 20, 21, 22, 23, 24, 25, 26, 27, 28, 29, 30, 31, 32, 33, 34, 35, 36, 37, 38], [35, 40])])
def tm5Reg.B5 : List Nat := [0, 1, 0, 0, 8, 0, 0, 64, 0, 448, 960, 1984, 0, 4096, 0, 28672, 61440, 126976, 258048, 520192, 1048512, 0, 2097152, 0, 14680064, 31457280, 65011712, 0, 134217728, 0, 939524096, 2013265920, 4160749568, 8455716864, 17045651456, 34357641216, 8589934535, 77309411271, 214748364743, 549755813887, 1099511627775, 2199023255551]
theorem tm5Reg.tab5 : rtab .any (opsOf Tryd.f28 5) = tm5Reg.T5 := by kernel_rfl
theorem tm5Reg.bits5 : waitsOk tm5Reg.T5.2 tm5Reg.B5 = true := by kernel_rfl
def tm10Reg.T10 : Bool × List (List Nat × List Nat) := (true, [([], []), ([0], [0]), ([], []), ([], []), ([3], [3]), ([], []), ([], []), ([6], [6]), ([], []), ([7, 8], [7, 8]), ([9], [9]), ([10], [10]), ([], []), ([12], [12]), ([], []), ([13, 14], [13, 14]), ([15], [15]), ([16], [16]), ([17], [17]), ([18], [18]), ([11, 19], [11, 19]), ([], []), ([21], [21]), ([], []), ([22, 23], [22, 23]), ([24], [24]), ([25], [25]), ([26], [26]), ([], []), ([28], [28]), ([], []), ([29, 30], [29, 30]), ([31], [31]), ([32], [32]), ([33], [33]), ([34], [34]), ([35], [35]), ([27, 36], [27, 36]), ([1, 2, 0, 1, 2, 6, 7, 8, 9, 10, 11, 12, 13, 14, 15, 16, 17, 18, 19, 20, 27, 34], [1, 2]), ([38, 0, 1, 2, 6, 7, 8, 9, 10, 11, 12, 13, 14, 15, 16, 17, 18, 19, 20, 27, 34], [38]), ([39, 20, 0, 1, 2, 6, 7, 8, 9, 10, 11, 12, 13, 14, 15, 16, 17, 18, 19, 20, 27, 34], [20, 39]), ([4, 5, 0, 1, 2, 3, 4, 5, 6, 7, 8, 9, 10, 11, 12, 13, 14, 15, 16, 17, 18, 19, 20, 21, 22, 23, 24, 25, 26, 27, 28, 29, 30, 31, 32, 33, 34, 35, 36, 37, 38, 39, 40], [4, 5]), ([41, 0, 1, 2, 3, 4, 5, 6, 7, 8, 9, 10, 11, 12, 13, 14, 15, 16, 17, 18, 19, 20, 21, 22, 23, 24, 25, 26, 27, 28, 29, 30, 31, 32, 33, 34, 35, 36, 37, 38, 39, 40], [41]), ([42, 0, 1, 2, 3, 4, 5, 6, 7, 8, 9, 10, 11, 12, 13, 14, 15, 16, 17, 18, 19, 20, 21, 22, 23, 24, 25, 26, 27, 28, 29, 30, 31, 32, 33, 34, 35, 36, 37, 38, 39, 40], [42]), ([43, 37, 40, 0, 1, 2, 3, 4, 5, 6, 7, 8, 9, 10, 11, 12, 13, 14, 15, 16, 17, 18, 19, 20, 21, 22, 23, 24, 25, 26, 27, 28, 29, 30, 31, 32, 33, 34, 35, 36, 37, 38, 39, 40], [37, 43])])
def tm10Reg.B10 : List Nat := [0, 1, 0, 0, 8, 0, 0, 64, 0, 448, 960, 1984, 0, 4096, 0, 28672, 61440, 126976, 258048, 520192, 1048512, 0, 2097152, 0, 14680064, 31457280, 65011712, 132120576, 0, 268435456, 0, 1879048192, 4026531840, 8321499136, 16911433728, 34091302912, 68451041280, 137436856320, 34359738311, 309237645255, 858993459143, 2199023255551, 4398046511103, 8796093022207, 17592186044415]
theorem tm10Reg.tab10 : rtab .any (opsOf Tryd.f28 10) = tm10Reg.T10 := by kernel_rfl
theorem tm10Reg.bits10 : waitsOk tm10Reg.T10.2 tm10Reg.B10 = true := by kernel_rfl
end Go.Proofs.YtbplemhjhpfkgaaDoor.Cd
namespace Go.Proofs.YtbplemhjhpfkgaaDoor.Cd
open Go.ChangeShapes Go.WideShapes Go.RowKit YtbplemhjhpfkgaaDoorW.PrintWords YtbplemhjhpfkgaaDoorW.PrintLast YtbplemhjhpfkgaaDoorW.PrintMore Rd
set_option maxRecDepth 100000
section
variable {H : Type} {enc : TypeId × Value → H} {w : World} {base : Nat} {spare : Nat → Bool} {held : Bool}
theorem listed {α : Type} {R : Nat → α → Prop} : ∀ n, (∀ i, i < n → ∃ y, R i y) → ∃ xs : List α, xs.length = n ∧ ∀ i y, xs[i]? = some y → R i y
 | 0, _ => ⟨[], rfl, by simp⟩
 | n + 1, h => by
  obtain ⟨xs, hl, hx⟩ := listed n (fun i hi => h i (by omega)); obtain ⟨y, hy⟩ := h n (by omega); refine ⟨xs ++ [y], by simp [hl], fun i z hz => ?_⟩
  by_cases hi : i < xs.length
  ·rw [List.getElem?_append_left hi] at hz; exact hx i z hz
  ·rw [List.getElem?_append_right (by omega)] at hz; rcases hk : i - xs.length with _ | k
   ·rw [hk] at hz; obtain rfl : y = z := by simpa using hz
    obtain rfl : i = n := by omega
    exact hy
   ·rw [hk] at hz; simp at hz
end
end Go.Proofs.YtbplemhjhpfkgaaDoor.Cd
namespace Go.Proofs.YtbplemhjhpfkgaaDoor.Cd
open Go.RowKit YtbplemhjhpfkgaaDoorW.PrintWords YtbplemhjhpfkgaaDoorW.PrintLast YtbplemhjhpfkgaaDoorW.PrintMore Rd
theorem asked_far (o : OpD) (A6 : Option Addr) (m6 : Nat) (A7 : Option Addr) (m7 : Nat) (A8 : Option Addr) (m8 : Nat) (w : World) (h : Lies w o A6 A7 A8) :
  Calls Tryd.prog 18 #[oW o A6 m6 A7 m7 A8 m8] w fun e w' => ∃ B6 n6 B7 n7 B8 n8, e = .returned (oW (askd o) B6 n6 B7 n7 B8 n8) ∧ Lies w' (askd o) B6 B7 B8 ∧ ((B6 = A6 ∨ B6 = none) ∧ (B7 = A7 ∨ B7 = none) ∧ (B8 = A8 ∨ B8 = none)) ∧ Below w.heap.size w w' := by
 obtain ⟨k, c, q, hh, a, t, p, s, r⟩ := o
 by_cases h1 : k = 1
 ·subst h1; refine (asked_1 c q hh a t A6 p.length m6 A7 s.length m7 A8 r.length m8 w).mono ?_; rintro e w' ⟨rfl, hb⟩; exact ⟨none, 0, none, 0, none, 0, rfl, ⟨nilCo _, nilAt _, nilR _⟩, ⟨.inr rfl, .inr rfl, .inr rfl⟩, hb⟩
 by_cases h2 : k = 2
 ·subst h2; refine (asked_2 c q hh a t A6 p.length m6 A7 s.length m7 A8 r.length m8 w).mono ?_; rintro e w' ⟨rfl, hb⟩; exact ⟨A6, m6, none, 0, none, 0, rfl, ⟨Kd.C_below h.p hb, nilAt _, nilR _⟩, ⟨.inl rfl, .inr rfl, .inr rfl⟩, hb⟩
 by_cases h4 : k = 4
 ·subst h4; refine (asked_4 c q hh a t A6 p.length m6 A7 s.length m7 A8 r.length m8 w).mono ?_; rintro e w' ⟨rfl, hb⟩; exact ⟨A6, m6, none, 0, none, 0, rfl, ⟨Kd.C_below h.p hb, nilAt _, nilR _⟩, ⟨.inl rfl, .inr rfl, .inr rfl⟩, hb⟩
 by_cases h3 : k = 3
 ·subst h3; refine (asked_3 c q hh a t A6 p.length m6 A7 s.length m7 A8 r.length m8 w).mono ?_; rintro e w' ⟨rfl, hb⟩; exact ⟨none, 0, none, 0, none, 0, rfl, ⟨nilCo _, nilAt _, nilR _⟩, ⟨.inr rfl, .inr rfl, .inr rfl⟩, hb⟩
 by_cases h5 : k = 5
 ·subst h5; refine (asked_5 c q hh a t A6 p.length m6 A7 s.length m7 A8 r.length m8 w).mono ?_; rintro e w' ⟨rfl, hb⟩; exact ⟨none, 0, none, 0, none, 0, rfl, ⟨nilCo _, nilAt _, nilR _⟩, ⟨.inr rfl, .inr rfl, .inr rfl⟩, hb⟩
 by_cases h6 : k = 6
 ·subst h6; refine (asked_6 c q hh a t A6 p.length m6 A7 s.length m7 A8 r.length m8 w).mono ?_; rintro e w' ⟨rfl, hb⟩; exact ⟨none, 0, A7, m7, none, 0, rfl, ⟨nilCo _, Kd.C_below h.s hb, nilR _⟩, ⟨.inr rfl, .inl rfl, .inr rfl⟩, hb⟩
 by_cases h7 : k = 7
 ·subst h7; refine (asked_7 c q hh a t A6 p.length m6 A7 s.length m7 A8 r.length m8 w).mono ?_; rintro e w' ⟨rfl, hb⟩; exact ⟨none, 0, none, 0, none, 0, rfl, ⟨nilCo _, nilAt _, nilR _⟩, ⟨.inr rfl, .inr rfl, .inr rfl⟩, hb⟩
 by_cases h8 : k = 8
 ·subst h8; refine (asked_8 c q hh a t A6 p.length m6 A7 s.length m7 A8 r.length m8 w).mono ?_; rintro e w' ⟨rfl, hb⟩; exact ⟨none, 0, none, 0, none, 0, rfl, ⟨nilCo _, nilAt _, nilR _⟩, ⟨.inr rfl, .inr rfl, .inr rfl⟩, hb⟩
 by_cases h9 : k = 9
 ·subst h9; refine (asked_9 c q hh a t A6 p.length m6 A7 s.length m7 A8 r.length m8 w).mono ?_; rintro e w' ⟨rfl, hb⟩; exact ⟨none, 0, none, 0, A8, m8, rfl, ⟨nilCo _, nilAt _, Kd.C_below h.r hb⟩, ⟨.inr rfl, .inr rfl, .inl rfl⟩, hb⟩
 have ha : askd ⟨k, c, q, hh, a, t, p, s, r⟩ = ⟨k, 0, 0, 0, 0, 0, [], [], []⟩ := by simp [askd, h1, h2, h3, h4, h5, h6, h7, h8, h9]
 refine (asked_none k (by simp [h9]) (by simp [h8]) (by simp [h1]) (by simp [h2]) (by simp [h4]) (by simp [h3]) (by simp [h5]) (by simp [h7]) (by simp [h6]) c q hh a t A6 p.length m6 A7 s.length m7 A8 r.length m8 w).mono ?_; rintro e w' ⟨rfl, hb⟩; rw [ha]; exact ⟨none, 0, none, 0, none, 0, rfl, ⟨nilCo _, nilAt _, nilR _⟩, ⟨.inr rfl, .inr rfl, .inr rfl⟩, hb⟩

end Go.Proofs.YtbplemhjhpfkgaaDoor.Cd

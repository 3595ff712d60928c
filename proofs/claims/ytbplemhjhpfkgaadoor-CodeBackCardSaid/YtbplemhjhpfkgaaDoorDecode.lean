/-
  code.Decode of any bytes.
-/
import Derived.Test.YtbplemhjhpfkgaaDoorRead
import Derived.Test.YtbplemhjhpfkgaaDoorCodeEnc
namespace Go.Proofs.YtbplemhjhpfkgaaDoor.Cd
open Go.RowKit Go.Proofs.YtbplemhjhpfkgaaDoorW.PrintWords Go.Proofs.YtbplemhjhpfkgaaDoorW.PrintLast Go.Proofs.YtbplemhjhpfkgaaDoorW.PrintMore Go.Proofs.YtbplemhjhpfkgaaDoor.Rd
open Go.Proofs.YtbplemhjhpfkgaaDoor.Ft (Door Chain new_chain kind_calls chain_iface)
set_option linter.unusedVariables false
set_option linter.unusedSimpArgs false
/-- Its bytes. -/
abbrev oBy (o : OpD) : List Int := opB o.k o.c o.q o.h o.a o.t o.p o.s o.r
def decD (xs : List Int) : Option OpD :=
  if (!(readD (xs, false)).2.2 && (readD (xs, false)).2.1.isEmpty) && rightD (readD (xs, false)).1 && decide (oBy (readD (xs, false)).1 = xs) then some (readD (xs, false)).1 else none
/-- What code.Decode hands back: r what is decoded, n how many bytes there were. -/
def DecOut (r : Option OpD) (n : Nat) (w w' : World) (e : Ending) : Prop :=
  (∀ o, r = some o → ∃ A6 m6 A7 m7 A8 m8, e = .returned (.tuple #[oW o A6 m6 A7 m7 A8 m8, .nilIface]) ∧ Lies w' o A6 A7 A8 ∧ Past w.heap.size A6 ∧ Past w.heap.size A7 ∧ Past w.heap.size A8) ∧
  (r = none → ∃ u, e = .returned (.tuple #[opV 0 0 0 0 0 0 none 0 0 none 0 0 none 0 0, u]) ∧ Chain w' [(⟨#[99, 111, 100, 101]⟩, (n : Int))] 1 u) ∧ Below w.heap.size w w'
theorem bytesOf_by (s : ByteArray) : Byt (bytesOf s) := by
  intro x hx
  obtain ⟨b, _, rfl⟩ := List.mem_map.1 hx
  have := b.toNat_lt
  omega
theorem readD_byt (s : Rs) : Byt (readD s).1.r := bytesOf_by _
theorem byt_app {xs ys : List Int} (h : Byt xs) (k : Byt ys) : Byt (xs ++ ys) := fun x hx => (List.mem_append.1 hx).elim (h x) (k x)
theorem byt_one (k : Int) : Byt [k % 256] := fun x hx => by obtain rfl := List.mem_singleton.1 hx; omega
theorem byt_be8s (xs : List Int) : Byt (be8s xs) := by
  intro x hx
  obtain ⟨y, _, hy⟩ := List.mem_flatMap.1 hx
  simp only [be8, byteAt, List.mem_cons, List.not_mem_nil, or_false] at hy
  rcases hy with rfl | rfl | rfl | rfl | rfl | rfl | rfl | rfl <;> constructor <;> omega
theorem byt_text8 (s : ByteArray) : Byt (text8 s) := by
  unfold text8
  split
  · exact fun x hx => by cases hx
  · intro x hx
    rcases List.mem_cons.1 hx with rfl | hx
    · constructor <;> omega
    · exact bytesOf_by s x hx
theorem byt_fl (b : Bool) : Byt [fl b] := by
  intro x hx
  obtain rfl := List.mem_singleton.1 hx
  cases b <;> simp [fl]
theorem byt_flatMap {α : Type} (f : α → List Int) (h : ∀ x, Byt (f x)) (l : List α) : Byt (l.flatMap f) := by
  intro x hx
  obtain ⟨y, _, hy⟩ := List.mem_flatMap.1 hx
  exact h y x hy
theorem byt_cB (x : Co) : Byt (cB x) := byt_app (byt_app (byt_app (byt_text8 _) (byt_one _)) (byt_be8s _)) (byt_text8 _)
theorem byt_aB (x : At) : Byt (aB x) := byt_app (byt_app (byt_app (byt_text8 _) (byt_fl _)) (byt_be8s _)) (byt_text8 _)
theorem byt_opB (k c q h a t : Int) (p : List Co) (s : List At) (r : List Int) : Byt (opB k c q h a t p s r) := by
  unfold opB
  exact byt_app (byt_app (byt_app (byt_app (byt_app (byt_app (byt_one _) (byt_be8s _)) (byt_one _)) (byt_flatMap _ byt_cB _)) (byt_one _)) (byt_flatMap _ byt_aB _)) (byt_text8 _)
theorem chain_keep {w w1 : World} {b : Nat} {cells : Array Value} (hk : KeepBut w w1 b none) (hb : w.heap[b]? = some (.cells cells 30 (0, 0))) : ∀ {fs : List (ByteArray × Int)} {c : Int} {v : Value}, Chain w fs c v → Chain w1 fs c v
  | [], _, _, hc => hc
  | x :: r, _, _, ⟨g, u, e, hg, hr⟩ => ⟨g, u, e, KeepBut.blk hk hg (by rintro rfl; rw [hb] at hg; simp at hg) (by simp), chain_keep hk hb hr⟩
set_option maxRecDepth 100000 in
set_option maxHeartbeats 16000000 in
theorem decode_calls (A : Option Addr) (c : Nat) (xs : List Int) (w : World) (hr : Kd.C (Kd.int .u8) w A xs.length xs) (hy : Byt xs) (hm : xs.length ≤ 140737488355328) :
    Calls Tryd.prog 31 #[.slice A xs.length c] w fun e w' => DecOut (decD xs) xs.length w w' e := by
  obtain ⟨o, s, e0⟩ : ∃ o s, readD (xs, false) = (o, s) := ⟨_, _, rfl⟩
  have HBR : Hid (Byt o.r) := Lib.hid (by have := readD_byt (xs, false); rw [e0] at this; exact this)
  obtain ⟨d1, hd1⟩ : ∃ d, (!s.2 && s.1.isEmpty) = d := ⟨_, rfl⟩
  obtain ⟨d2, hd2⟩ : ∃ d, rightD o = d := ⟨_, rfl⟩
  obtain ⟨d3, hd3⟩ : ∃ d, decide (oBy o = xs) = d := ⟨_, rfl⟩
  have hdec : decD xs = if d1 && d2 && d3 then some o else none := by unfold decD; rw [e0]; simp only [hd1, hd2, hd3]
  obtain ⟨zk, zc, zq, zh, za, zt, zp, zs, zr⟩ := o
  have HD := Lib.hid hdec
  generalize decD xs = rr at HD ⊢
  clear hdec
  have E0 := Lib.hid e0
  have D1 := Lib.hid hd1
  have D2 := Lib.hid hd2
  have D3 : Hid (decide (opB zk zc zq zh za zt zp zs zr = xs) = d3) := Lib.hid hd3
  have HPL : Hid (d2 = true → zp.length ≤ 200 ∧ zs.length ≤ 200) := Lib.hid (fun h => by
    rw [h] at hd2
    simp only [rightD, Bool.and_eq_true, decide_eq_true_iff] at hd2
    omega)
  have HY := Aside0.mk hy
  have HR := Aside0.mk hr
  have HWa := Aside0.mk (below_alloc (Below.refl w.heap.size w) (.cells #[.int .i64 0, .int .i64 0, .int .i64 0, .int .i64 0, .int .i64 0, .int .i64 0, .slice none 0 0, .slice none 0 0, .slice none 0 0] 30))
  have HZ := Aside0.mk (blk_new w (.cells #[.int .i64 0, .int .i64 0, .int .i64 0, .int .i64 0, .int .i64 0, .int .i64 0, .slice none 0 0, .slice none 0 0, .slice none 0 0] 30))
  clear e0 hd1 hd2 hd3 hr hy
  go_enter Tryd.func31, Tryd.ntmps31
  go_upto_region 1 with fail
  generalize (w.alloc (.cells #[.int .i64 0, .int .i64 0, .int .i64 0, .int .i64 0, .int .i64 0, .int .i64 0, .slice none 0 0, .slice none 0 0, .slice none 0 0] 30)) = wa at *
  go_upto_region 3 with (first
    | (replace RI := RI; go_at_call 64; have hc := read_one g (xs, false) w0 _ RI.out RB.out; rw [E0.out] at hc; refine hc.mono ?_; clear hc; rintro e w2 ⟨A6, m6, A7, m7, A8, m8, rfl, hL, hI, hB, hp6, hp7, hp8⟩; have HP6 := Aside0.mk hp6; have HP7 := Aside0.mk hp7; have HP8 := Aside0.mk hp8; have HZ0 := Aside0.mk (blk_lt HZ.out); have HL := Aside0.mk (Lies.below hL (below_alloc (Below.refl w2.heap.size w2) (.cells #[.int .i64 zk, .int .i64 zc, .int .i64 zq, .int .i64 zh, .int .i64 za, .int .i64 zt, .slice A6 zp.length m6, .slice A7 zs.length m7, .slice A8 zr.length m8] 30))); have RJ := Aside0.mk (IsRd.alloc hI (.cells #[.int .i64 zk, .int .i64 zc, .int .i64 zq, .int .i64 zh, .int .i64 za, .int .i64 zt, .slice A6 zp.length m6, .slice A7 zs.length m7, .slice A8 zr.length m8] 30)); replace HZ := Aside0.mk (blk_alloc (blk_below HZ.out hB) (.cells #[.int .i64 zk, .int .i64 zc, .int .i64 zq, .int .i64 zh, .int .i64 za, .int .i64 zt, .slice A6 zp.length m6, .slice A7 zs.length m7, .slice A8 zr.length m8] 30)); have HW := Aside0.mk (below_alloc (below_step HW0.out hB) (.cells #[.int .i64 zk, .int .i64 zc, .int .i64 zq, .int .i64 zh, .int .i64 za, .int .i64 zt, .slice A6 zp.length m6, .slice A7 zs.length m7, .slice A8 zr.length m8] 30)); have HO := Aside0.mk (blk_new w2 (.cells #[.int .i64 zk, .int .i64 zc, .int .i64 zq, .int .i64 zh, .int .i64 za, .int .i64 zt, .slice A6 zp.length m6, .slice A7 zs.length m7, .slice A8 zr.length m8] 30)); clear hL hI hB hp6 hp7 hp8)
    | (go_at_call 63; refine (read_calls A _ xs _ (Kd.C_below HR.out HWa.out) HY.out hm).mono ?_; rintro e w1 ⟨w0, g, rfl, hI, hB0, hB1⟩; have RI := Aside0.mk hI; have RB := Aside0.mk hB1; have HW0 := Aside0.mk (below_step HWa.out hB0); replace HZ := Aside0.mk (blk_below HZ.out hB0); clear hI hB0 hB1))
  clear RI RB HW0 HWa
  generalize (w2.alloc (.cells #[.int .i64 zk, .int .i64 zc, .int .i64 zq, .int .i64 zh, .int .i64 za, .int .i64 zt, .slice A6 zp.length m6, .slice A7 zs.length m7, .slice A8 zr.length m8] 30)) = wb at *
  generalize w2.heap.size = bo at *
  obtain ⟨bd, hbd⟩ : ∃ bd, (!(d1 && d2 && d3)) = bd := ⟨_, rfl⟩
  obtain ⟨ob, hob⟩ : ∃ ob, opB zk zc zq zh za zt zp zs zr = ob := ⟨_, rfl⟩
  have HBO : Hid (Byt ob) := Lib.hid (hob ▸ byt_opB _ _ _ _ _ _ _ _ _)
  have HOB := Lib.hid hob
  rw [hob] at D3
  clear hob
  go_cut [24] from 10 to 24 (fun v wx => v = .bool bd ∧ Aside0 (wx.heap[bo]? = some (.cells #[.int .i64 zk, .int .i64 zc, .int .i64 zq, .int .i64 zh, .int .i64 za, .int .i64 zt, .slice A6 zp.length m6, .slice A7 zs.length m7, .slice A8 zr.length m8] 30 (0, 0))) ∧ Aside0 (wx.heap[w.heap.size]? = some (.cells #[.int .i64 0, .int .i64 0, .int .i64 0, .int .i64 0, .int .i64 0, .int .i64 0, .slice none 0 0, .slice none 0 0, .slice none 0 0] 30 (0, 0))) ∧ Aside0 (Lies wx (⟨zk, zc, zq, zh, za, zt, zp, zs, zr⟩ : OpD) A6 A7 A8) ∧ Aside0 (Below w.heap.size w wx))
  case first =>
    have q0 := (blk_cell HO.out 0).trans (rfl : _ = some (Value.int .i64 zk))
    have q1 := (blk_cell HO.out 1).trans (rfl : _ = some (Value.int .i64 zc))
    have q2 := (blk_cell HO.out 2).trans (rfl : _ = some (Value.int .i64 zq))
    have q3 := (blk_cell HO.out 3).trans (rfl : _ = some (Value.int .i64 zh))
    have q4 := (blk_cell HO.out 4).trans (rfl : _ = some (Value.int .i64 za))
    have q5 := (blk_cell HO.out 5).trans (rfl : _ = some (Value.int .i64 zt))
    have q6 := (blk_cell HO.out 6).trans (rfl : _ = some (Value.slice A6 zp.length m6))
    have q7 := (blk_cell HO.out 7).trans (rfl : _ = some (Value.slice A7 zs.length m7))
    have q8 := (blk_cell HO.out 8).trans (rfl : _ = some (Value.slice A8 zr.length m8))
    have hlo := blk_lt HO.out
    cases d1 with
    | false =>
      obtain rfl : bd = true := by rw [← hbd]; rfl
      go_wp2_with (go_at_call 65; refine (done_calls g s.1 s.2 w0 _ RJ.out).mono ?_; rintro e w3 ⟨he, rfl⟩; rw [D1.out] at he; subst he)
      go_meet
      case rel => exact ⟨rfl, HO, HZ, HL, HW⟩
    | true =>
      cases d2 with
      | false =>
        obtain rfl : bd = true := by rw [← hbd]; rfl
        go_wp2_with (first | (replace RJ := RJ; go_at_call 20; refine (right_calls (⟨zk, zc, zq, zh, za, zt, zp, zs, zr⟩ : OpD) _ _ _ _ _ _ _ HL.out HBR.out).mono ?_; rintro e w4 ⟨he, hB⟩; rw [D2.out] at he; subst he; clear RJ q0 q1 q2 q3 q4 q5 q6 q7 q8 hlo; replace HO := Aside0.mk (blk_below HO.out hB); replace HZ := Aside0.mk (blk_below HZ.out hB); replace HL := Aside0.mk (Lies.below HL.out hB); replace HW := Aside0.mk (below_step HW.out hB); have q0 := (blk_cell HO.out 0).trans (rfl : _ = some (Value.int .i64 zk)); have q1 := (blk_cell HO.out 1).trans (rfl : _ = some (Value.int .i64 zc)); have q2 := (blk_cell HO.out 2).trans (rfl : _ = some (Value.int .i64 zq)); have q3 := (blk_cell HO.out 3).trans (rfl : _ = some (Value.int .i64 zh)); have q4 := (blk_cell HO.out 4).trans (rfl : _ = some (Value.int .i64 za)); have q5 := (blk_cell HO.out 5).trans (rfl : _ = some (Value.int .i64 zt)); have q6 := (blk_cell HO.out 6).trans (rfl : _ = some (Value.slice A6 zp.length m6)); have q7 := (blk_cell HO.out 7).trans (rfl : _ = some (Value.slice A7 zs.length m7)); have q8 := (blk_cell HO.out 8).trans (rfl : _ = some (Value.slice A8 zr.length m8)); have hlo := blk_lt HO.out; clear hB) | (go_at_call 65; refine (done_calls g s.1 s.2 w0 _ RJ.out).mono ?_; rintro e w3 ⟨he, rfl⟩; rw [D1.out] at he; subst he))
        go_meet
        case rel => exact ⟨rfl, HO, HZ, HL, HW⟩
      | true =>
        cases d3 with
        | false =>
          obtain rfl : bd = true := by rw [← hbd]; rfl
          go_wp2_with (first | (replace HCV := HCV; go_at_call 62; refine (eqB_calls Av cv ob A c xs _ HCV.out (Kd.C_below HR.out HW.out) HBO.out HY.out).mono ?_; rintro e w6 ⟨he, rfl⟩; rw [D3.out] at he; subst he) | (go_at_call 45; refine (put_calls zk zc zq zh za zt _ _ zp _ _ zs _ _ zr _ HL.out.p HL.out.s HL.out.r (by have := (HPL.out (by trivial)).1; omega) (by have := (HPL.out (by trivial)).2; omega)).mono ?_; rintro e w5 ⟨v, rfl, hR, hB⟩; rw [HOB.out] at hR; obtain ⟨Av, cv, rfl, hcv, hCv⟩ := Kd.R_reads hR; have HCV := Aside0.mk hCv; clear q0 q1 q2 q3 q4 q5 q6 q7 q8 hlo; replace HO := Aside0.mk (blk_below HO.out hB); replace HZ := Aside0.mk (blk_below HZ.out hB); replace HL := Aside0.mk (Lies.below HL.out hB); replace HW := Aside0.mk (below_step HW.out hB); clear hB hR hCv) | (replace RJ := RJ; go_at_call 20; refine (right_calls (⟨zk, zc, zq, zh, za, zt, zp, zs, zr⟩ : OpD) _ _ _ _ _ _ _ HL.out HBR.out).mono ?_; rintro e w4 ⟨he, hB⟩; rw [D2.out] at he; subst he; clear RJ q0 q1 q2 q3 q4 q5 q6 q7 q8 hlo; replace HO := Aside0.mk (blk_below HO.out hB); replace HZ := Aside0.mk (blk_below HZ.out hB); replace HL := Aside0.mk (Lies.below HL.out hB); replace HW := Aside0.mk (below_step HW.out hB); have q0 := (blk_cell HO.out 0).trans (rfl : _ = some (Value.int .i64 zk)); have q1 := (blk_cell HO.out 1).trans (rfl : _ = some (Value.int .i64 zc)); have q2 := (blk_cell HO.out 2).trans (rfl : _ = some (Value.int .i64 zq)); have q3 := (blk_cell HO.out 3).trans (rfl : _ = some (Value.int .i64 zh)); have q4 := (blk_cell HO.out 4).trans (rfl : _ = some (Value.int .i64 za)); have q5 := (blk_cell HO.out 5).trans (rfl : _ = some (Value.int .i64 zt)); have q6 := (blk_cell HO.out 6).trans (rfl : _ = some (Value.slice A6 zp.length m6)); have q7 := (blk_cell HO.out 7).trans (rfl : _ = some (Value.slice A7 zs.length m7)); have q8 := (blk_cell HO.out 8).trans (rfl : _ = some (Value.slice A8 zr.length m8)); have hlo := blk_lt HO.out; clear hB) | (go_at_call 65; refine (done_calls g s.1 s.2 w0 _ RJ.out).mono ?_; rintro e w3 ⟨he, rfl⟩; rw [D1.out] at he; subst he))
          go_meet
          case rel => exact ⟨rfl, HO, HZ, HL, HW⟩
        | true =>
          obtain rfl : bd = false := by rw [← hbd]; rfl
          go_wp2_with (first | (replace HCV := HCV; go_at_call 62; refine (eqB_calls Av cv ob A c xs _ HCV.out (Kd.C_below HR.out HW.out) HBO.out HY.out).mono ?_; rintro e w6 ⟨he, rfl⟩; rw [D3.out] at he; subst he) | (go_at_call 45; refine (put_calls zk zc zq zh za zt _ _ zp _ _ zs _ _ zr _ HL.out.p HL.out.s HL.out.r (by have := (HPL.out (by trivial)).1; omega) (by have := (HPL.out (by trivial)).2; omega)).mono ?_; rintro e w5 ⟨v, rfl, hR, hB⟩; rw [HOB.out] at hR; obtain ⟨Av, cv, rfl, hcv, hCv⟩ := Kd.R_reads hR; have HCV := Aside0.mk hCv; clear q0 q1 q2 q3 q4 q5 q6 q7 q8 hlo; replace HO := Aside0.mk (blk_below HO.out hB); replace HZ := Aside0.mk (blk_below HZ.out hB); replace HL := Aside0.mk (Lies.below HL.out hB); replace HW := Aside0.mk (below_step HW.out hB); clear hB hR hCv) | (replace RJ := RJ; go_at_call 20; refine (right_calls (⟨zk, zc, zq, zh, za, zt, zp, zs, zr⟩ : OpD) _ _ _ _ _ _ _ HL.out HBR.out).mono ?_; rintro e w4 ⟨he, hB⟩; rw [D2.out] at he; subst he; clear RJ q0 q1 q2 q3 q4 q5 q6 q7 q8 hlo; replace HO := Aside0.mk (blk_below HO.out hB); replace HZ := Aside0.mk (blk_below HZ.out hB); replace HL := Aside0.mk (Lies.below HL.out hB); replace HW := Aside0.mk (below_step HW.out hB); have q0 := (blk_cell HO.out 0).trans (rfl : _ = some (Value.int .i64 zk)); have q1 := (blk_cell HO.out 1).trans (rfl : _ = some (Value.int .i64 zc)); have q2 := (blk_cell HO.out 2).trans (rfl : _ = some (Value.int .i64 zq)); have q3 := (blk_cell HO.out 3).trans (rfl : _ = some (Value.int .i64 zh)); have q4 := (blk_cell HO.out 4).trans (rfl : _ = some (Value.int .i64 za)); have q5 := (blk_cell HO.out 5).trans (rfl : _ = some (Value.int .i64 zt)); have q6 := (blk_cell HO.out 6).trans (rfl : _ = some (Value.slice A6 zp.length m6)); have q7 := (blk_cell HO.out 7).trans (rfl : _ = some (Value.slice A7 zs.length m7)); have q8 := (blk_cell HO.out 8).trans (rfl : _ = some (Value.slice A8 zr.length m8)); have hlo := blk_lt HO.out; clear hB) | (go_at_call 65; refine (done_calls g s.1 s.2 w0 _ RJ.out).mono ?_; rintro e w3 ⟨he, rfl⟩; rw [D1.out] at he; subst he))
          go_meet
          case rel => exact ⟨rfl, HO, HZ, HL, HW⟩
  case rest =>
    obtain ⟨rfl, HO, HZ, HL, HW⟩ := hcut
    cases bd with
    | true =>
      have hno : (if (d1 && d2 && d3) = true then some (⟨zk, zc, zq, zh, za, zt, zp, zs, zr⟩ : OpD) else none) = none := by rw [if_neg]; intro h; rw [h] at hbd; cases hbd
      go_wp2_with (go_at_call 44; refine (new_chain (fs := []) (c := 1) rfl).mono ?_; rintro e w7 ⟨u, rfl, hc, hB⟩; have HC := Aside0.mk hc; replace HZ := Aside0.mk (blk_below HZ.out hB); replace HW := Aside0.mk (below_step HW.out hB); have z0 := (blk_cell HZ.out 0).trans (rfl : _ = some (Value.int .i64 0)); have z1 := (blk_cell HZ.out 1).trans (rfl : _ = some (Value.int .i64 0)); have z2 := (blk_cell HZ.out 2).trans (rfl : _ = some (Value.int .i64 0)); have z3 := (blk_cell HZ.out 3).trans (rfl : _ = some (Value.int .i64 0)); have z4 := (blk_cell HZ.out 4).trans (rfl : _ = some (Value.int .i64 0)); have z5 := (blk_cell HZ.out 5).trans (rfl : _ = some (Value.int .i64 0)); have z6 := (blk_cell HZ.out 6).trans (rfl : _ = some (Value.slice none 0 0)); have z7 := (blk_cell HZ.out 7).trans (rfl : _ = some (Value.slice none 0 0)); have z8 := (blk_cell HZ.out 8).trans (rfl : _ = some (Value.slice none 0 0)); have f0 := blk_frozen HZ.out 0; have f1 := blk_frozen HZ.out 1; have f2 := blk_frozen HZ.out 2; have f3 := blk_frozen HZ.out 3; have f4 := blk_frozen HZ.out 4; have f5 := blk_frozen HZ.out 5; have f6 := blk_frozen HZ.out 6; have f7 := blk_frozen HZ.out 7; have f8 := blk_frozen HZ.out 8; have hlz := blk_lt HZ.out; clear hB hc)
      obtain ⟨hk9, hb9, hw9⟩ := put9 HZ.out (.int .i64 0) (.int .i64 0) (.int .i64 0) (.int .i64 0) (.int .i64 0) (.int .i64 0) (.slice none 0 0) (.slice none 0 0) (.slice none 0 0)
      have ZE := Aside0.mk hb9
      have WE := Aside0.mk (hw9 w HW.out (Nat.le_refl _))
      have CE := Aside0.mk (chain_keep hk9 HZ.out HC.out)
      clear hk9 hb9 hw9 HW HC z0 f0 z1 f1 z2 f2 z3 f3 z4 f4 z5 f5 z6 f6 z7 f7 z8 f8 hlz HZ
      generalize (((((((((w7.setCell ⟨w.heap.size, 0, none⟩ (.int .i64 0)).setCell ⟨w.heap.size, 1, none⟩ (.int .i64 0)).setCell ⟨w.heap.size, 2, none⟩ (.int .i64 0)).setCell ⟨w.heap.size, 3, none⟩ (.int .i64 0)).setCell ⟨w.heap.size, 4, none⟩ (.int .i64 0)).setCell ⟨w.heap.size, 5, none⟩ (.int .i64 0)).setCell ⟨w.heap.size, 6, none⟩ (.slice none 0 0)).setCell ⟨w.heap.size, 7, none⟩ (.slice none 0 0)).setCell ⟨w.heap.size, 8, none⟩ (.slice none 0 0)) = wE at ZE WE CE ⊢
      have q0 := (blk_cell ZE.out 0).trans (rfl : _ = some (Value.int .i64 0))
      have q1 := (blk_cell ZE.out 1).trans (rfl : _ = some (Value.int .i64 0))
      have q2 := (blk_cell ZE.out 2).trans (rfl : _ = some (Value.int .i64 0))
      have q3 := (blk_cell ZE.out 3).trans (rfl : _ = some (Value.int .i64 0))
      have q4 := (blk_cell ZE.out 4).trans (rfl : _ = some (Value.int .i64 0))
      have q5 := (blk_cell ZE.out 5).trans (rfl : _ = some (Value.int .i64 0))
      have q6 := (blk_cell ZE.out 6).trans (rfl : _ = some (Value.slice none 0 0))
      have q7 := (blk_cell ZE.out 7).trans (rfl : _ = some (Value.slice none 0 0))
      have q8 := (blk_cell ZE.out 8).trans (rfl : _ = some (Value.slice none 0 0))
      refine bodyPost_ret (v := .tuple #[opV 0 0 0 0 0 0 none 0 0 none 0 0 none 0 0, u]) (by simp [results, Tryd.results31, go_sem, q0, q1, q2, q3, q4, q5, q6, q7, q8]) rfl ⟨fun o h => (by rw [HD.out, hno] at h; cases h), fun _ => ⟨u, rfl, CE.out⟩, WE.out⟩
    | false =>
      have hyes : (d1 && d2 && d3) = true := by cases h : (d1 && d2 && d3) <;> simp_all
      have q0 := (blk_cell HO.out 0).trans (rfl : _ = some (Value.int .i64 zk))
      have q1 := (blk_cell HO.out 1).trans (rfl : _ = some (Value.int .i64 zc))
      have q2 := (blk_cell HO.out 2).trans (rfl : _ = some (Value.int .i64 zq))
      have q3 := (blk_cell HO.out 3).trans (rfl : _ = some (Value.int .i64 zh))
      have q4 := (blk_cell HO.out 4).trans (rfl : _ = some (Value.int .i64 za))
      have q5 := (blk_cell HO.out 5).trans (rfl : _ = some (Value.int .i64 zt))
      have q6 := (blk_cell HO.out 6).trans (rfl : _ = some (Value.slice A6 zp.length m6))
      have q7 := (blk_cell HO.out 7).trans (rfl : _ = some (Value.slice A7 zs.length m7))
      have q8 := (blk_cell HO.out 8).trans (rfl : _ = some (Value.slice A8 zr.length m8))
      have z0 := (blk_cell HZ.out 0).trans (rfl : _ = some (Value.int .i64 0))
      have z1 := (blk_cell HZ.out 1).trans (rfl : _ = some (Value.int .i64 0))
      have z2 := (blk_cell HZ.out 2).trans (rfl : _ = some (Value.int .i64 0))
      have z3 := (blk_cell HZ.out 3).trans (rfl : _ = some (Value.int .i64 0))
      have z4 := (blk_cell HZ.out 4).trans (rfl : _ = some (Value.int .i64 0))
      have z5 := (blk_cell HZ.out 5).trans (rfl : _ = some (Value.int .i64 0))
      have z6 := (blk_cell HZ.out 6).trans (rfl : _ = some (Value.slice none 0 0))
      have z7 := (blk_cell HZ.out 7).trans (rfl : _ = some (Value.slice none 0 0))
      have z8 := (blk_cell HZ.out 8).trans (rfl : _ = some (Value.slice none 0 0))
      have f0 := blk_frozen HZ.out 0
      have f1 := blk_frozen HZ.out 1
      have f2 := blk_frozen HZ.out 2
      have f3 := blk_frozen HZ.out 3
      have f4 := blk_frozen HZ.out 4
      have f5 := blk_frozen HZ.out 5
      have f6 := blk_frozen HZ.out 6
      have f7 := blk_frozen HZ.out 7
      have f8 := blk_frozen HZ.out 8
      have hlo := blk_lt HO.out
      have hlz := blk_lt HZ.out
      obtain ⟨hk9, hb9, hw9⟩ := put9 HZ.out (.int .i64 zk) (.int .i64 zc) (.int .i64 zq) (.int .i64 zh) (.int .i64 za) (.int .i64 zt) (.slice A6 zp.length m6) (.slice A7 zs.length m7) (.slice A8 zr.length m8)
      have ZE := Aside0.mk hb9
      have WE := Aside0.mk (hw9 w HW.out (Nat.le_refl _))
      have LE := Aside0.mk (show Lies _ (⟨zk, zc, zq, zh, za, zt, zp, zs, zr⟩ : OpD) A6 A7 A8 from Lies.keep HL.out hk9 HP6.out HP7.out HP8.out HZ0.out)
      clear hk9 hb9 hw9 HW HL
      go_wp2
      generalize (((((((((wc.setCell ⟨w.heap.size, 0, none⟩ (.int .i64 zk)).setCell ⟨w.heap.size, 1, none⟩ (.int .i64 zc)).setCell ⟨w.heap.size, 2, none⟩ (.int .i64 zq)).setCell ⟨w.heap.size, 3, none⟩ (.int .i64 zh)).setCell ⟨w.heap.size, 4, none⟩ (.int .i64 za)).setCell ⟨w.heap.size, 5, none⟩ (.int .i64 zt)).setCell ⟨w.heap.size, 6, none⟩ (.slice A6 zp.length m6)).setCell ⟨w.heap.size, 7, none⟩ (.slice A7 zs.length m7)).setCell ⟨w.heap.size, 8, none⟩ (.slice A8 zr.length m8)) = wE at ZE WE LE ⊢
      clear q0 q1 q2 q3 q4 q5 q6 q7 q8 z0 f0 z1 f1 z2 f2 z3 f3 z4 f4 z5 f5 z6 f6 z7 f7 z8 f8 hlo hlz HO HZ
      have q0 := (blk_cell ZE.out 0).trans (rfl : _ = some (Value.int .i64 zk))
      have q1 := (blk_cell ZE.out 1).trans (rfl : _ = some (Value.int .i64 zc))
      have q2 := (blk_cell ZE.out 2).trans (rfl : _ = some (Value.int .i64 zq))
      have q3 := (blk_cell ZE.out 3).trans (rfl : _ = some (Value.int .i64 zh))
      have q4 := (blk_cell ZE.out 4).trans (rfl : _ = some (Value.int .i64 za))
      have q5 := (blk_cell ZE.out 5).trans (rfl : _ = some (Value.int .i64 zt))
      have q6 := (blk_cell ZE.out 6).trans (rfl : _ = some (Value.slice A6 zp.length m6))
      have q7 := (blk_cell ZE.out 7).trans (rfl : _ = some (Value.slice A7 zs.length m7))
      have q8 := (blk_cell ZE.out 8).trans (rfl : _ = some (Value.slice A8 zr.length m8))
      refine bodyPost_ret (v := .tuple #[opV zk zc zq zh za zt A6 zp.length m6 A7 zs.length m7 A8 zr.length m8, .nilIface]) (by simp [results, Tryd.results31, go_sem, q0, q1, q2, q3, q4, q5, q6, q7, q8]) rfl ⟨fun o h => ?_, fun h => (by rw [HD.out, if_pos hyes] at h; cases h), WE.out⟩
      rw [HD.out, if_pos hyes] at h
      obtain rfl := Option.some.inj h
      exact ⟨A6, m6, A7, m7, A8, m8, rfl, LE.out, HP6.out.le (Nat.le_of_lt HZ0.out), HP7.out.le (Nat.le_of_lt HZ0.out), HP8.out.le (Nat.le_of_lt HZ0.out)⟩
end Go.Proofs.YtbplemhjhpfkgaaDoor.Cd

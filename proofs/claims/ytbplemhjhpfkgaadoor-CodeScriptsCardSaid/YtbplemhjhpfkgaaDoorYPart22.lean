/-
 code.Split at a script's bytes.
-/
import Derived.Test.YtbplemhjhpfkgaaDoorYNext
import Derived.Test.YtbplemhjhpfkgaaDoorYPart18
import Derived.Test.YtbplemhjhpfkgaaDoorYKeepOp
import Derived.Test.YtbplemhjhpfkgaaDoorYPart16
import Derived.Test.YtbplemhjhpfkgaaDoorYPart6
set_option linter.unusedVariables false
set_option linter.unusedSimpArgs false
namespace Go.Proofs.YtbplemhjhpfkgaaDoor.Cd
open Go.RowKit YtbplemhjhpfkgaaDoorW.PrintWords YtbplemhjhpfkgaaDoorW.PrintLast YtbplemhjhpfkgaaDoorW.PrintMore Rd
open Go.Proofs.YtbplemhjhpfkgaaDoor.Ft (Door Chain new_chain kind_calls chain_iface)
def scB (os : List OpD) : List Int := os.flatMap sB
theorem byt_sB (o : OpD) : Byt (sB o) := byt_app (be8_by _) (byt_opB _ _ _ _ _ _ _ _ _)
theorem byt_scB (os : List OpD) : Byt (scB os) := byt_flatMap _ byt_sB os
theorem scB_drop {os : List OpD} {j : Nat} {o : OpD} (h : os[j]? = some o) : scB (os.drop j) = sB o ++ scB (os.drop (j + 1)) := by
 obtain ⟨hj, rfl⟩ := List.getElem?_eq_some_iff.1 h; rw [List.drop_eq_getElem_cons hj]; rfl
theorem scB_le {os : List OpD} (h : ∀ x ∈ os, rightD x = true) : (scB os).length ≤ 300008 * os.length := by
 induction os with
 | nil => simp [scB]
 | cons x xs ih =>
  have h1 := ih (fun y hy => h y (by simp [hy])); have h2 := sB_le (h x (by simp)); simp only [scB, List.flatMap_cons, List.length_append, List.length_cons] at h1 ⊢; omega
theorem sB_pos (o : OpD) : 0 < (sB o).length := by simp only [sB, List.length_append, be8_len]; omega
set_option maxRecDepth 100000 in
set_option maxHeartbeats 16000000 in
theorem split_ok (A : Option Addr) (c : Nat) (os : List OpD) (w : World) (hr : Kd.C (Kd.int .u8) w A (scB os).length (scB os)) (hc : (scB os).length ≤ c) (hn : os.length ≤ 100) (hR : ∀ o ∈ os, rightD o = true) (hw : ∀ o ∈ os, WfD o) (hb : ∀ o ∈ os, Byt o.r) :
  Calls Tryd.prog 33 #[.slice A (scB os).length c] w fun e w' => ∃ (aO : Option Addr) (cO : Nat) (xs : List OpX), e = .returned (.tuple #[.slice aO xs.length cO, .nilIface]) ∧ Kd.R kOp 30 w' w.heap.size (fun _ => True) (.slice aO xs.length cO) xs ∧ xs.map (·.1) = os ∧ (∀ x ∈ xs, LiesX w' x) ∧ Below w.heap.size w w' := by
 have HLe : Hid (∀ j, (scB (os.drop j)).length ≤ 30000800) := Lib.hid (fun j => by
  have h1 := scB_le (os := os.drop j) (fun y hy => hR y (List.mem_of_mem_drop hy)); rw [List.length_drop] at h1; have : os.length - j ≤ 100 := by omega
  omega)
 have HNx : Hid (∀ j o, os[j]? = some o → ∀ A c W, Kd.C (Kd.int .u8) W A (scB (os.drop j)).length (scB (os.drop j)) → (scB (os.drop j)).length ≤ c → Calls Tryd.prog 67 #[.slice A (scB (os.drop j)).length c] W fun e w' => ∃ (x : OpX) (A' : Option Addr) (c' : Nat), x.1 = o ∧ e = .returned (.tuple #[.agg #[.int .i64 x.1.k, .int .i64 x.1.c, .int .i64 x.1.q, .int .i64 x.1.h, .int .i64 x.1.a, .int .i64 x.1.t, .slice x.2.1.1 x.1.p.length x.2.1.2, .slice x.2.2.1.1 x.1.s.length x.2.2.1.2, .slice x.2.2.2.1 x.1.r.length x.2.2.2.2], .slice A' (scB (os.drop (j + 1))).length c', .nilIface]) ∧ (scB (os.drop (j + 1))).length ≤ c' ∧ (∀ V, Kd.C (Kd.int .u8) V A (scB (os.drop j)).length (scB (os.drop j)) → Kd.C (Kd.int .u8) V A' (scB (os.drop (j + 1))).length (scB (os.drop (j + 1)))) ∧ LiesX w' x ∧ PastX W.heap.size x ∧ Below W.heap.size W w') :=
  Lib.hid (fun j o ho A c W h hc => by
   have hm := HLe.out j; rw [scB_drop ho] at h hc hm ⊢; have hmem := List.mem_of_getElem? ho; exact next_ok A c o _ W h hc (by omega) (byt_scB _) (hR o hmem) (hw o hmem) (hb o hmem))
 have HR := sd hr; clear hr hR hw hb
 go_enter Tryd.func33, Tryd.ntmps33
 go_upto_region 2 with fail
 go_loopw [0, 4] (fun b v wr => ∃ (j : Nat) (A' : Option Addr) (c' : Nat) (xs : List OpX) (aO : Option Addr) (cO : Nat), j ≤ os.length ∧ b = .slice A' (scB (os.drop j)).length c' ∧ (scB (os.drop j)).length ≤ c' ∧ v = .slice aO xs.length cO ∧ xs.length ≤ j ∧ Aside0 (Kd.C (Kd.int .u8) w A' (scB (os.drop j)).length (scB (os.drop j))) ∧ Aside0 (Kd.R kOp 30 wr w.heap.size (fun _ => True) (.slice aO xs.length cO) xs) ∧ Aside0 (xs.map (·.1) = os.take j) ∧ Aside0 (∀ x ∈ xs, LiesX wr x ∧ OffX (Value.slice aO xs.length cO).ownBlock x) ∧ Aside0 (Below w.heap.size w wr)) (fun b _ _ => match b with | .slice _ n _ => n | _ => 0)
 case atStart => exact ⟨0, A, c, [], none, 0, Nat.zero_le _, rfl, hc, rfl, Nat.le_refl _, HR, ⟨Kd.R_nil _ _ _ _ _⟩, ⟨rfl⟩, ⟨fun x hx => by cases hx⟩, ⟨Below.refl _ _⟩⟩
 case round =>
  obtain ⟨j, A', c', xs, aO, cO, hj, rfl, hc', rfl, hxj, HC, HO, HM, HX, HW⟩ := hrel
  by_cases hlt : j < os.length
  ·obtain ⟨o, ho⟩ : ∃ o, os[j]? = some o := ⟨_, List.getElem?_eq_getElem hlt⟩; have hpos : 0 < (scB (os.drop j)).length := by rw [scB_drop ho, List.length_append]; have := sB_pos o; omega
   have hls : (scB (os.drop (j + 1))).length < (scB (os.drop j)).length := by rw [scB_drop ho, List.length_append]; have := sB_pos o; omega
   have hd0 : decide (((scB (os.drop j)).length : Int) > 0) = true := decide_eq_true (by omega); have HN := Lib.hid (HNx.out j o ho A' c'); have HT : Hid (os.take (j + 1) = os.take j ++ [o]) := Lib.hid (by obtain ⟨hj', rfl⟩ := List.getElem?_eq_some_iff.1 ho; exact List.take_succ_eq_append_getElem hj'); clear ho; generalize scB (os.drop j) = bj at *; generalize hbn : scB (os.drop (j + 1)) = bn at *; have HBN := Lib.hid hbn; clear hbn; have hn100 : xs.length ≤ 100 := by omega
   go_upto_region 4 with (go_at_call 67; refine (HN.out _ (Kd.C_below HC.out HW.out) hc').mono ?_; rintro e w2 ⟨x, A2, c2, hx, rfl, hc2, hC2, hL2, hP2, hB⟩; have HX2 := Lib.hid hx; have HC3 := sd (hC2 w HC.out); have HX3 : Aside0 (∀ y ∈ xs ++ [x], LiesX (w2.alloc (.cells #[.int .i64 x.1.k, .int .i64 x.1.c, .int .i64 x.1.q, .int .i64 x.1.h, .int .i64 x.1.a, .int .i64 x.1.t, .slice x.2.1.1 x.1.p.length x.2.1.2, .slice x.2.2.1.1 x.1.s.length x.2.2.1.2, .slice x.2.2.2.1 x.1.r.length x.2.2.2.2] 30)) y ∧ OffX (Value.slice aO xs.length cO).ownBlock y) := ⟨fun y hy => (List.mem_append.1 hy).elim (fun h => ⟨Lies.below (Lies.below (HX.out y h).1 hB) (below_alloc (Below.refl w2.heap.size w2) (.cells #[.int .i64 x.1.k, .int .i64 x.1.c, .int .i64 x.1.q, .int .i64 x.1.h, .int .i64 x.1.a, .int .i64 x.1.t, .slice x.2.1.1 x.1.p.length x.2.1.2, .slice x.2.2.1.1 x.1.s.length x.2.2.1.2, .slice x.2.2.2.1 x.1.r.length x.2.2.2.2] 30)), (HX.out y h).2⟩) (fun h => by rw [List.mem_singleton.1 h]; exact ⟨Lies.below hL2 (below_alloc (Below.refl w2.heap.size w2) (.cells #[.int .i64 x.1.k, .int .i64 x.1.c, .int .i64 x.1.q, .int .i64 x.1.h, .int .i64 x.1.a, .int .i64 x.1.t, .slice x.2.1.1 x.1.p.length x.2.1.2, .slice x.2.2.1.1 x.1.s.length x.2.2.1.2, .slice x.2.2.2.1 x.1.r.length x.2.2.2.2] 30)), OffX_past hP2 (fun k hk => Kd.R_lt HO.out k hk)⟩)⟩; replace HO := sd (Kd.R_alloc (Kd.R_below HO.out hB) (.cells #[.int .i64 x.1.k, .int .i64 x.1.c, .int .i64 x.1.q, .int .i64 x.1.h, .int .i64 x.1.a, .int .i64 x.1.t, .slice x.2.1.1 x.1.p.length x.2.1.2, .slice x.2.2.1.1 x.1.s.length x.2.2.1.2, .slice x.2.2.2.1 x.1.r.length x.2.2.2.2] 30)); replace HW := sd (below_alloc (below_step HW.out hB) (.cells #[.int .i64 x.1.k, .int .i64 x.1.c, .int .i64 x.1.q, .int .i64 x.1.h, .int .i64 x.1.a, .int .i64 x.1.t, .slice x.2.1.1 x.1.p.length x.2.1.2, .slice x.2.2.1.1 x.1.s.length x.2.2.1.2, .slice x.2.2.2.1 x.1.r.length x.2.2.2.2] 30)); have HQ := sd (blk_new w2 (.cells #[.int .i64 x.1.k, .int .i64 x.1.c, .int .i64 x.1.q, .int .i64 x.1.h, .int .i64 x.1.a, .int .i64 x.1.t, .slice x.2.1.1 x.1.p.length x.2.1.2, .slice x.2.2.1.1 x.1.s.length x.2.2.1.2, .slice x.2.2.2.1 x.1.r.length x.2.2.2.2] 30)); clear hx hC2 hL2 hP2 hB)
   generalize (w2.alloc (.cells #[.int .i64 x.1.k, .int .i64 x.1.c, .int .i64 x.1.q, .int .i64 x.1.h, .int .i64 x.1.a, .int .i64 x.1.t, .slice x.2.1.1 x.1.p.length x.2.1.2, .slice x.2.2.1.1 x.1.s.length x.2.2.1.2, .slice x.2.2.2.1 x.1.r.length x.2.2.2.2] 30)) = wq at *; generalize w2.heap.size = bq at *; obtain ⟨q0, q1, q2, q3, q4, q5, q6, q7, q8⟩ := bl9 HQ.out; have hlq := blk_lt HQ.out; go_wp2_with ((with_reducible refine gate_builtin (b := .append) (xs := #[.tmp 23, .tmp 25]) rfl ?_); at_builtin; refine Kd.R_append (kOp) (w0 := w) (w.heap.size) rfl (.tmp 23) (.tmp 25) 70 30 (.agg #[(.int .i64 0), (.int .i64 0), (.int .i64 0), (.int .i64 0), (.int .i64 0), (.int .i64 0), (.slice none 0 0), (.slice none 0 0), (.slice none 0 0)]) 120 rfl Tryd.underlying70 infoOp rfl (by decide) (by omega) (.slice aO xs.length cO) (xs) (x) [.int .i64 x.1.k, .int .i64 x.1.c, .int .i64 x.1.q, .int .i64 x.1.h, .int .i64 x.1.a, .int .i64 x.1.t, .slice x.2.1.1 x.1.p.length x.2.1.2, .slice x.2.2.1.1 x.1.s.length x.2.2.1.2, .slice x.2.2.2.1 x.1.r.length x.2.2.2.2] (fun _ => True) (fun _ => False) rfl ?aX ?aP (fun _ hk => hk.elim) ?aF ?aO ?aB ?aS ?aL ?_; (case aX => first | rfl | (simp [Act.eval]; done)); (case aP => exact rfl); (case aB => exact (by repeat (with_reducible first | exact HW.out | apply below_alloc | apply pw_below_drewN | apply below_drew1))); (case aF => exact (fun _ _ => trivial)); (case aO => exact (by (with_reducible repeat (first | apply Kd.R_alloc | apply Kd.R_drewN | apply Kd.R_drew)); exact HO.out)); (case aS => exact (below_size (by repeat (with_reducible first | exact HW.out | apply below_alloc | apply pw_below_drewN | apply below_drew1)))); (case aL => omega); intro v1 w1 ho hb hg hat; obtain ⟨A1, c1, rfl⟩ := Kd.R_slice ho; have HO1 := sd ho; have HW1 := sd hb; have HX4 : Aside0 (∀ y ∈ xs ++ [x], LiesX w1 y ∧ OffX (Value.slice A1 (xs ++ [x]).length c1).ownBlock y) := ⟨fun y hy => ⟨LiesX_grown (HX3.out y hy).1 hg (HX3.out y hy).2, OffX_at (HX3.out y hy).1 (HX3.out y hy).2 hat⟩⟩; clear ho hb hg hat)
   go_roundw
   case rel => exact ⟨j + 1, A2, c2, xs ++ [x], A1, c1, by omega, by rw [HBN.out], by rw [HBN.out]; exact hc2, by rw [List.length_append, List.length_singleton], by simp only [List.length_append, List.length_singleton]; omega, by rw [HBN.out]; exact HC3, HO1, ⟨by rw [List.map_append, HM.out, HT.out]; simp [HX2.out]⟩, HX4, HW1⟩
   case measure => simp; omega
  ·obtain rfl : j = os.length := by omega
   have hd0 : decide (((scB (os.drop os.length)).length : Int) > 0) = false := by simp [scB]
   rw [List.take_length] at HM; go_wp2; go_ret2; exact ⟨aO, cO, xs, rfl, HO.out, HM.out, fun x hx => (HX.out x hx).1, HW.out⟩
end Go.Proofs.YtbplemhjhpfkgaaDoor.Cd
namespace Go.Proofs.YtbplemhjhpfkgaaDoor.Cd
open Go.RowKit YtbplemhjhpfkgaaDoorW.PrintWords YtbplemhjhpfkgaaDoorW.PrintLast YtbplemhjhpfkgaaDoorW.PrintMore Rd
open Go.Proofs.YtbplemhjhpfkgaaDoor.Ft (Door Chain new_chain kind_calls chain_iface)
def scP (os : List OpD) (pre : List Int) (j : Nat) : List Int := scB (os.drop j) ++ pre
theorem scP_drop {os : List OpD} {pre : List Int} {j : Nat} {o : OpD} (h : os[j]? = some o) : scP os pre j = sB o ++ scP os pre (j + 1) := by
 unfold scP; rw [scB_drop h, List.append_assoc]
theorem byt_scP {os : List OpD} {pre : List Int} (h : Byt pre) (j : Nat) : Byt (scP os pre j) := byt_app (byt_scB _) h
def NextErr (pre : List Int) : Prop := ∀ (A : Option Addr) (c : Nat) (W : World), Kd.C (Kd.int .u8) W A pre.length pre → pre.length ≤ c → Calls Tryd.prog 67 #[.slice A pre.length c] W fun e w' => e = .returned (.tuple #[.agg #[.int .i64 0, .int .i64 0, .int .i64 0, .int .i64 0, .int .i64 0, .int .i64 0, .slice none 0 0, .slice none 0 0, .slice none 0 0], .slice none 0 0, .iface 31 (.int .i64 1)]) ∧ Below W.heap.size W w'
theorem next_part {o : OpD} {m : Nat} (hR : rightD o = true) (hm : m < (sB o).length) : NextErr ((sB o).take m) := by
 intro A c W h hc
 by_cases h8 : m < 8
 ·exact next_few A c _ W (by rw [List.length_take]; omega)
 ·have e : (sB o).take m = be8 ((oBy o).length : Int) ++ (oBy o).take (m - 8) := by
   have h1 : m = (be8 ((oBy o).length : Int)).length + (m - 8) := by rw [be8_len]; omega
   unfold sB; rw [h1, List.take_length_add_append, be8_len]
   congr 2
   omega
  rw [e] at h hc ⊢; have hl : (sB o).length = 8 + (oBy o).length := by unfold sB; rw [List.length_append, be8_len]
  refine next_cut A c (oBy o) ((oBy o).take (m - 8)) W h hc ?_ (oBy_le hR); rw [List.length_take]; omega
set_option maxRecDepth 100000 in
set_option maxHeartbeats 16000000 in
theorem split_cut (A : Option Addr) (c : Nat) (os : List OpD) (pre : List Int) (w : World) (hr : Kd.C (Kd.int .u8) w A (scP os pre 0).length (scP os pre 0)) (hc : (scP os pre 0).length ≤ c) (hp0 : 0 < pre.length) (hpl : pre.length ≤ 300008) (hpb : Byt pre) (hpn : NextErr pre) (hn : os.length ≤ 100) (hR : ∀ o ∈ os, rightD o = true) (hw : ∀ o ∈ os, WfD o) (hb : ∀ o ∈ os, Byt o.r) :
  Calls Tryd.prog 33 #[.slice A (scP os pre 0).length c] w fun e w' => ∃ u, e = .returned (.tuple #[.slice none 0 0, u]) ∧ Chain w' [(⟨#[115, 99, 114, 105, 112, 116]⟩, (os.length : Int))] 1 u ∧ Below w.heap.size w w' := by
 have HLe : Hid (∀ j, (scP os pre j).length ≤ 30300808) := Lib.hid (fun j => by
  have h1 := scB_le (os := os.drop j) (fun y hy => hR y (List.mem_of_mem_drop hy)); rw [List.length_drop] at h1; have : os.length - j ≤ 100 := by omega
  rw [scP, List.length_append]; omega)
 have HPN := Lib.hid hpn; have HP0 := Lib.hid hp0
 have HNx : Hid (∀ j o, os[j]? = some o → ∀ A c W, Kd.C (Kd.int .u8) W A (scP os pre j).length (scP os pre j) → (scP os pre j).length ≤ c → Calls Tryd.prog 67 #[.slice A (scP os pre j).length c] W fun e w' => ∃ (x : OpX) (A' : Option Addr) (c' : Nat), x.1 = o ∧ e = .returned (.tuple #[.agg #[.int .i64 x.1.k, .int .i64 x.1.c, .int .i64 x.1.q, .int .i64 x.1.h, .int .i64 x.1.a, .int .i64 x.1.t, .slice x.2.1.1 x.1.p.length x.2.1.2, .slice x.2.2.1.1 x.1.s.length x.2.2.1.2, .slice x.2.2.2.1 x.1.r.length x.2.2.2.2], .slice A' (scP os pre (j + 1)).length c', .nilIface]) ∧ (scP os pre (j + 1)).length ≤ c' ∧ (∀ V, Kd.C (Kd.int .u8) V A (scP os pre j).length (scP os pre j) → Kd.C (Kd.int .u8) V A' (scP os pre (j + 1)).length (scP os pre (j + 1))) ∧ LiesX w' x ∧ PastX W.heap.size x ∧ Below W.heap.size W w') :=
  Lib.hid (fun j o ho A c W h hc => by
   have hm := HLe.out j; rw [scP_drop ho] at h hc hm ⊢; have hmem := List.mem_of_getElem? ho; exact next_ok A c o _ W h hc (by omega) (byt_scP hpb _) (hR o hmem) (hw o hmem) (hb o hmem))
 have HR := sd hr; clear hr hR hw hb hp0 hpl hpb hpn
 go_enter Tryd.func33, Tryd.ntmps33
 go_upto_region 2 with fail
 go_loopw [0, 4] (fun b v wr => ∃ (j : Nat) (A' : Option Addr) (c' : Nat) (xs : List OpX) (aO : Option Addr) (cO : Nat), j ≤ os.length ∧ b = .slice A' (scP os pre j).length c' ∧ (scP os pre j).length ≤ c' ∧ v = .slice aO xs.length cO ∧ xs.length ≤ j ∧ Aside0 (Kd.C (Kd.int .u8) w A' (scP os pre j).length (scP os pre j)) ∧ Aside0 (Kd.R kOp 30 wr w.heap.size (fun _ => True) (.slice aO xs.length cO) xs) ∧ Aside0 (xs.map (·.1) = os.take j) ∧ Aside0 (∀ x ∈ xs, LiesX wr x ∧ OffX (Value.slice aO xs.length cO).ownBlock x) ∧ Aside0 (Below w.heap.size w wr)) (fun b _ _ => match b with | .slice _ n _ => n | _ => 0)
 case atStart => exact ⟨0, A, c, [], none, 0, Nat.zero_le _, rfl, hc, rfl, Nat.le_refl _, HR, ⟨Kd.R_nil _ _ _ _ _⟩, ⟨rfl⟩, ⟨fun x hx => by cases hx⟩, ⟨Below.refl _ _⟩⟩
 case round =>
  obtain ⟨j, A', c', xs, aO, cO, hj, rfl, hc', rfl, hxj, HC, HO, HM, HX, HW⟩ := hrel
  by_cases hlt : j < os.length
  ·obtain ⟨o, ho⟩ : ∃ o, os[j]? = some o := ⟨_, List.getElem?_eq_getElem hlt⟩; have hpos : 0 < (scP os pre j).length := by rw [scP_drop ho, List.length_append]; have := sB_pos o; omega
   have hls : (scP os pre (j + 1)).length < (scP os pre j).length := by rw [scP_drop ho, List.length_append]; have := sB_pos o; omega
   have hd0 : decide (((scP os pre j).length : Int) > 0) = true := decide_eq_true (by omega); have HN := Lib.hid (HNx.out j o ho A' c'); have HT : Hid (os.take (j + 1) = os.take j ++ [o]) := Lib.hid (by obtain ⟨hj', rfl⟩ := List.getElem?_eq_some_iff.1 ho; exact List.take_succ_eq_append_getElem hj'); clear ho; generalize scP os pre j = bj at *; generalize hbn : scP os pre (j + 1) = bn at *; have HBN := Lib.hid hbn; clear hbn; have hn100 : xs.length ≤ 100 := by omega
   go_upto_region 4 with (go_at_call 67; refine (HN.out _ (Kd.C_below HC.out HW.out) hc').mono ?_; rintro e w2 ⟨x, A2, c2, hx, rfl, hc2, hC2, hL2, hP2, hB⟩; have HX2 := Lib.hid hx; have HC3 := sd (hC2 w HC.out); have HX3 : Aside0 (∀ y ∈ xs ++ [x], LiesX (w2.alloc (.cells #[.int .i64 x.1.k, .int .i64 x.1.c, .int .i64 x.1.q, .int .i64 x.1.h, .int .i64 x.1.a, .int .i64 x.1.t, .slice x.2.1.1 x.1.p.length x.2.1.2, .slice x.2.2.1.1 x.1.s.length x.2.2.1.2, .slice x.2.2.2.1 x.1.r.length x.2.2.2.2] 30)) y ∧ OffX (Value.slice aO xs.length cO).ownBlock y) := ⟨fun y hy => (List.mem_append.1 hy).elim (fun h => ⟨Lies.below (Lies.below (HX.out y h).1 hB) (below_alloc (Below.refl w2.heap.size w2) (.cells #[.int .i64 x.1.k, .int .i64 x.1.c, .int .i64 x.1.q, .int .i64 x.1.h, .int .i64 x.1.a, .int .i64 x.1.t, .slice x.2.1.1 x.1.p.length x.2.1.2, .slice x.2.2.1.1 x.1.s.length x.2.2.1.2, .slice x.2.2.2.1 x.1.r.length x.2.2.2.2] 30)), (HX.out y h).2⟩) (fun h => by rw [List.mem_singleton.1 h]; exact ⟨Lies.below hL2 (below_alloc (Below.refl w2.heap.size w2) (.cells #[.int .i64 x.1.k, .int .i64 x.1.c, .int .i64 x.1.q, .int .i64 x.1.h, .int .i64 x.1.a, .int .i64 x.1.t, .slice x.2.1.1 x.1.p.length x.2.1.2, .slice x.2.2.1.1 x.1.s.length x.2.2.1.2, .slice x.2.2.2.1 x.1.r.length x.2.2.2.2] 30)), OffX_past hP2 (fun k hk => Kd.R_lt HO.out k hk)⟩)⟩; replace HO := sd (Kd.R_alloc (Kd.R_below HO.out hB) (.cells #[.int .i64 x.1.k, .int .i64 x.1.c, .int .i64 x.1.q, .int .i64 x.1.h, .int .i64 x.1.a, .int .i64 x.1.t, .slice x.2.1.1 x.1.p.length x.2.1.2, .slice x.2.2.1.1 x.1.s.length x.2.2.1.2, .slice x.2.2.2.1 x.1.r.length x.2.2.2.2] 30)); replace HW := sd (below_alloc (below_step HW.out hB) (.cells #[.int .i64 x.1.k, .int .i64 x.1.c, .int .i64 x.1.q, .int .i64 x.1.h, .int .i64 x.1.a, .int .i64 x.1.t, .slice x.2.1.1 x.1.p.length x.2.1.2, .slice x.2.2.1.1 x.1.s.length x.2.2.1.2, .slice x.2.2.2.1 x.1.r.length x.2.2.2.2] 30)); have HQ := sd (blk_new w2 (.cells #[.int .i64 x.1.k, .int .i64 x.1.c, .int .i64 x.1.q, .int .i64 x.1.h, .int .i64 x.1.a, .int .i64 x.1.t, .slice x.2.1.1 x.1.p.length x.2.1.2, .slice x.2.2.1.1 x.1.s.length x.2.2.1.2, .slice x.2.2.2.1 x.1.r.length x.2.2.2.2] 30)); clear hx hC2 hL2 hP2 hB)
   generalize (w2.alloc (.cells #[.int .i64 x.1.k, .int .i64 x.1.c, .int .i64 x.1.q, .int .i64 x.1.h, .int .i64 x.1.a, .int .i64 x.1.t, .slice x.2.1.1 x.1.p.length x.2.1.2, .slice x.2.2.1.1 x.1.s.length x.2.2.1.2, .slice x.2.2.2.1 x.1.r.length x.2.2.2.2] 30)) = wq at *; generalize w2.heap.size = bq at *; obtain ⟨q0, q1, q2, q3, q4, q5, q6, q7, q8⟩ := bl9 HQ.out; have hlq := blk_lt HQ.out; go_wp2_with ((with_reducible refine gate_builtin (b := .append) (xs := #[.tmp 23, .tmp 25]) rfl ?_); at_builtin; refine Kd.R_append (kOp) (w0 := w) (w.heap.size) rfl (.tmp 23) (.tmp 25) 70 30 (.agg #[(.int .i64 0), (.int .i64 0), (.int .i64 0), (.int .i64 0), (.int .i64 0), (.int .i64 0), (.slice none 0 0), (.slice none 0 0), (.slice none 0 0)]) 120 rfl Tryd.underlying70 infoOp rfl (by decide) (by omega) (.slice aO xs.length cO) (xs) (x) [.int .i64 x.1.k, .int .i64 x.1.c, .int .i64 x.1.q, .int .i64 x.1.h, .int .i64 x.1.a, .int .i64 x.1.t, .slice x.2.1.1 x.1.p.length x.2.1.2, .slice x.2.2.1.1 x.1.s.length x.2.2.1.2, .slice x.2.2.2.1 x.1.r.length x.2.2.2.2] (fun _ => True) (fun _ => False) rfl ?aX ?aP (fun _ hk => hk.elim) ?aF ?aO ?aB ?aS ?aL ?_; (case aX => first | rfl | (simp [Act.eval]; done)); (case aP => exact rfl); (case aB => exact (by repeat (with_reducible first | exact HW.out | apply below_alloc | apply pw_below_drewN | apply below_drew1))); (case aF => exact (fun _ _ => trivial)); (case aO => exact (by (with_reducible repeat (first | apply Kd.R_alloc | apply Kd.R_drewN | apply Kd.R_drew)); exact HO.out)); (case aS => exact (below_size (by repeat (with_reducible first | exact HW.out | apply below_alloc | apply pw_below_drewN | apply below_drew1)))); (case aL => omega); intro v1 w1 ho hb hg hat; obtain ⟨A1, c1, rfl⟩ := Kd.R_slice ho; have HO1 := sd ho; have HW1 := sd hb; have HX4 : Aside0 (∀ y ∈ xs ++ [x], LiesX w1 y ∧ OffX (Value.slice A1 (xs ++ [x]).length c1).ownBlock y) := ⟨fun y hy => ⟨LiesX_grown (HX3.out y hy).1 hg (HX3.out y hy).2, OffX_at (HX3.out y hy).1 (HX3.out y hy).2 hat⟩⟩; clear ho hb hg hat)
   go_roundw
   case rel => exact ⟨j + 1, A2, c2, xs ++ [x], A1, c1, by omega, by rw [HBN.out], by rw [HBN.out]; exact hc2, by rw [List.length_append, List.length_singleton], by simp only [List.length_append, List.length_singleton]; omega, by rw [HBN.out]; exact HC3, HO1, ⟨by rw [List.map_append, HM.out, HT.out]; simp [HX2.out]⟩, HX4, HW1⟩
   case measure => simp; omega
  ·obtain rfl : j = os.length := by omega
   have hPr : scP os pre os.length = pre := by simp [scP, scB]
   rw [hPr] at HC hc' ⊢; have hd0 : decide ((pre.length : Int) > 0) = true := decide_eq_true (by have := HP0.out; omega); have HLX : Hid (os.length = xs.length) := Lib.hid (by have h1 := congrArg List.length HM.out; rw [List.length_map, List.length_take] at h1; omega); clear HO HM HX
   go_wp2_with (first
    | (replace HX9 := HX9; go_at_call 44; refine (new_chain (fs := []) (c := 1) rfl).mono ?_; rintro e w3 ⟨u, rfl, hch, hB⟩; have HCh := sd hch; replace HW := sd (below_step HW.out hB); clear hch hB)
    | (go_at_call 67; refine (HPN.out A' c' _ (Kd.C_below HC.out HW.out) hc').mono ?_; rintro e w2 ⟨rfl, hB⟩; replace HW := sd (below_alloc (below_step HW.out hB) (.cells #[.int .i64 0, .int .i64 0, .int .i64 0, .int .i64 0, .int .i64 0, .int .i64 0, .slice none 0 0, .slice none 0 0, .slice none 0 0] 30)); have HX9 := sd True.intro; clear hB))
   go_ret2; exact ⟨u, rfl, by rw [HLX.out]; exact HCh.out, HW.out⟩
end Go.Proofs.YtbplemhjhpfkgaaDoor.Cd
namespace Go.Proofs.YtbplemhjhpfkgaaDoor.Cs
open Go.RowKit YtbplemhjhpfkgaaDoorW.PrintWords YtbplemhjhpfkgaaDoorW.PrintLast YtbplemhjhpfkgaaDoorW.PrintMore Rd
open Go.Proofs.YtbplemhjhpfkgaaDoor.Cd (Co At OpD OpX kOp askd rightD WfD oW Lies LiesX scB sB scP flat oBy oBy_le)
open Go.Proofs.YtbplemhjhpfkgaaDoor.Wr (BOp BOpIn bW RowX RowIn KeyM KeyIn OpOk)
structure GKey where
 b : Int
 u : RowX
 m : RowX
abbrev gW (x : GKey) : Value := .agg #[.int .i64 x.b, .slice x.u.A x.u.l.length x.u.c, .slice x.m.A x.m.l.length x.m.c]
structure GKeyIn (w : World) (x : GKey) : Prop where
 u : RowIn w x.u
 m : RowIn w x.m
def bCells (x : BOp) : List Value := [.int .i64 x.k, .int .i64 x.c, .int .i64 x.q, .int .i64 x.h, .int .i64 x.a, .int .i64 x.t, .slice x.p0.A x.p0.l.length x.p0.c, .slice x.p1.A x.p1.l.length x.p1.c, .slice x.t0.A x.t0.l.length x.t0.c, .slice x.t1.A x.t1.l.length x.t1.c, .int .i64 x.m.a0, .int .i64 x.m.a1, .int .i64 x.m.a2, .int .i64 x.m.a3, .int .i64 x.m.a4, .slice x.m.p.A x.m.p.l.length x.m.p.c, .slice x.m.q.A x.m.q.l.length x.m.q.c, .slice x.m.r.A x.m.r.l.length x.m.r.c, .slice x.m.s.A x.m.s.l.length x.m.s.c]
def kB : Kd BOp := flat 19 bCells (fun _ => rfl) (by intro x u hu; simp [bCells] at hu; rcases hu with rfl | rfl | rfl | rfl | rfl | rfl | rfl | rfl | rfl | rfl | rfl | rfl | rfl | rfl | rfl | rfl | rfl | rfl | rfl <;> rfl)
theorem at_B {w : World} {A : Option Addr} {n : Nat} {xs : List BOp} (h : Kd.C kB w A n xs) (i : Nat) (h1 : i < n) : ∃ (ad : Addr) (x : BOp), A = some ad ∧ xs[i]? = some x ∧ w.cell? (ad.add (i * 19)) = some (.int .i64 x.k) ∧ ∀ j u, 0 < j → (bCells x)[j]? = some u → w.cell? ⟨(ad.add (i * 19)).block, (ad.add (i * 19)).off + j, none⟩ = some u := by
 obtain ⟨ad, e, hc⟩ := h.2.2 (by omega); have hl : i < xs.length := by have := h.1; omega
 obtain ⟨c, hs, hr, hcell⟩ := hc i _ (List.getElem?_eq_getElem hl); have hr' : c = bCells xs[i] := hr; subst hr'; exact ⟨ad, xs[i], e, List.getElem?_eq_getElem hl, hcell 0 _ rfl, fun j u hj hu => by rw [← add_field _ _ j hj]; exact hcell j u hu⟩
theorem cut_at : ∀ (os : List OpD) (c : Nat), c < (scB os).length → ∃ (n m : Nat) (o : OpD), os[n]? = some o ∧ m < (sB o).length ∧ c = (scB (os.take n)).length + m ∧ (scB os).take c = scB (os.take n) ++ (sB o).take m
 | [], c, h => by simp [scB] at h
 | o :: r, c, h => by
  have e : scB (o :: r) = sB o ++ scB r := rfl; rw [e] at h ⊢
  by_cases hc : c < (sB o).length
  ·refine ⟨0, c, o, rfl, hc, by simp [scB], ?_⟩; rw [List.take_append_of_le_length (by omega)]
   simp [scB]
  ·rw [List.length_append] at h; obtain ⟨d, rfl⟩ : ∃ d, c = (sB o).length + d := ⟨c - (sB o).length, by omega⟩; obtain ⟨n, m, p, h1, h2, h3, h4⟩ := cut_at r d (by omega); have e2 : scB ((o :: r).take (n + 1)) = sB o ++ scB (r.take n) := rfl; refine ⟨n + 1, m, p, by simpa using h1, h2, ?_, ?_⟩
   ·rw [e2, List.length_append]; omega
   ·rw [e2, List.append_assoc, ← h4, List.take_length_add_append]
theorem len_take (os : List OpD) (j : Nat) (o : OpD) (h : os[j]? = some o) : (scB (os.take (j + 1))).length = (scB (os.take j)).length + (8 + (oBy o).length) := by
 have e : os.take (j + 1) = os.take j ++ [o] := by obtain ⟨hj, rfl⟩ := List.getElem?_eq_some_iff.1 h; exact List.take_succ_eq_append_getElem hj
 rw [e]; unfold scB; rw [List.flatMap_append, List.length_append]
 simp [sB, be8_len]
theorem len_mono (os : List OpD) {i j : Nat} (h : i ≤ j) : (scB (os.take i)).length ≤ (scB (os.take j)).length := by
 obtain ⟨k, rfl⟩ : ∃ k, j = i + k := ⟨j - i, by omega⟩; rw [List.take_add]; unfold scB; rw [List.flatMap_append, List.length_append]; omega
def zOp : OpD := ⟨0, 0, 0, 0, 0, 0, [], [], []⟩
abbrev Past3 (n : Nat) (A6 A7 A8 : Option Addr) : Prop := Wr.Past n A6 ∧ Wr.Past n A7 ∧ Wr.Past n A8
theorem Past3.le {n m : Nat} {A6 A7 A8 : Option Addr} (h : Past3 n A6 A7 A8) (hm : m ≤ n) : Past3 m A6 A7 A8 := ⟨h.1.le hm, h.2.1.le hm, h.2.2.le hm⟩
structure FreeO (g : Nat) (d : OpD) (A6 A7 A8 : Option Addr) : Prop where
 p : 0 < d.p.length → ∀ ad, A6 = some ad → ad.block ≠ g
 s : 0 < d.s.length → ∀ ad, A7 = some ad → ad.block ≠ g
 r : 0 < d.r.length → ∀ ad, A8 = some ad → ad.block ≠ g
theorem C_old {α : Type} {d : Kd α} {w : World} {A : Option Addr} {n : Nat} {xs : List α} (h : Kd.C d w A n xs) (hs : 0 < d.sz) (hn : 0 < n) (ad : Addr) (e : A = some ad) : ad.block ≠ w.heap.size := by
 obtain ⟨ad', e', hc⟩ := h.2.2 hn; obtain rfl : ad' = ad := Option.some.inj (e'.symm.trans e); have hl : 0 < xs.length := by have := h.1; omega
 obtain ⟨cs, h1, _, h3⟩ := hc 0 _ (List.getElem?_eq_getElem hl); have hz : 0 < cs.length := by omega
 have := World.block_lt_of_cell? w _ (h3 0 _ (List.getElem?_eq_getElem hz)); rw [add_block] at this; omega
theorem freeO_new {w : World} {d : OpD} {A6 A7 A8 : Option Addr} (h : Lies w d A6 A7 A8) : FreeO w.heap.size d A6 A7 A8 :=
 ⟨C_old h.p (by decide), C_old h.s (by decide), C_old h.r (by decide)⟩
theorem freeO_past {n g : Nat} {d : OpD} {A6 A7 A8 : Option Addr} (h : Past3 n A6 A7 A8) (hg : g < n) : FreeO g d A6 A7 A8 :=
 ⟨fun _ ad e => by have := h.1 ad e; omega, fun _ ad e => by have := h.2.1 ad e; omega, fun _ ad e => by have := h.2.2 ad e; omega⟩
theorem Lies_free {w w1 : World} {d : OpD} {A6 A7 A8 : Option Addr} {g : Nat} (h : Lies w d A6 A7 A8) (hk : KeepBut w w1 g none) (hf : FreeO g d A6 A7 A8) : Lies w1 d A6 A7 A8 :=
 ⟨Wr.C_free (fun _ _ _ _ h => h) h.p hk hf.p, Wr.C_free (fun _ _ _ _ h => h) h.s hk hf.s, Wr.C_free (fun _ _ _ _ h => h) h.r hk hf.r⟩
theorem RowIn.below {w w' : World} {x : RowX} (h : RowIn w x) (hb : Below w.heap.size w w') : RowIn w' x := ⟨Kd.C_below h.C hb, h.le⟩
theorem KeyIn.below {w w' : World} {x : KeyM} (h : KeyIn w x) (hb : Below w.heap.size w w') : KeyIn w' x := ⟨RowIn.below h.p hb, RowIn.below h.q hb, RowIn.below h.r hb, RowIn.below h.s hb⟩
theorem _root_.Go.Proofs.YtbplemhjhpfkgaaDoor.Wr.BOpIn.below {w w' : World} {x : BOp} (h : BOpIn w x) (hb : Below w.heap.size w w') : BOpIn w' x := ⟨RowIn.below h.p0 hb, RowIn.below h.p1 hb, RowIn.below h.t0 hb, RowIn.below h.t1 hb, KeyIn.below h.m hb⟩
structure OkX (x : OpX) : Prop where
 R : rightD x.1 = true
 W : WfD x.1
 B : Byt x.1.r
abbrev scrS : ByteArray := ⟨#[115, 99, 114, 105, 112, 116]⟩
def PostS (w : World) (m n nY : Nat) (u : Value) : Prop := (m = 0 ∧ nY = n ∧ u = .nilIface) ∨ (0 < m ∧ nY = 0 ∧ Ft.Chain w [(scrS, (n : Int))] 1 u)
theorem PostS.below {w w' : World} {m n nY : Nat} {u : Value} (h : PostS w m n nY u) (hb : Below w.heap.size w w') : PostS w' m n nY u :=
 h.imp (fun h => h) (fun h => ⟨h.1, h.2.1, Ft.Chain.below hb h.2.2⟩)
theorem split_at (xs : List OpX) (hOK : ∀ x ∈ xs, OkX x) (hx : xs.length ≤ 10) (bs : List Int) (cn n m : Nat) (o : OpD) (hon : (xs.map (·.1))[n]? = some o) (hm : m < (sB o).length) (hcm : cn = (scB ((xs.map (·.1)).take n)).length + m) (htk : bs.take cn = scB ((xs.map (·.1)).take n) ++ (sB o).take m) (A : Option Addr) (c : Nat) (W : World) (h : Kd.C (Kd.int .u8) W A cn (bs.take cn)) (hc : cn ≤ c) :
  Calls Tryd.prog 33 #[.slice A cn c] W fun e w' => ∃ (aY : Option Addr) (nY cY : Nat) (u : Value), e = .returned (.tuple #[.slice aY nY cY, u]) ∧ PostS w' m n nY u ∧ Below W.heap.size W w' := by
 have hall : ∀ p ∈ xs.map (·.1), rightD p = true ∧ WfD p ∧ Byt p.r := fun p hp => by
  obtain ⟨x, hx, rfl⟩ := List.mem_map.1 hp; exact ⟨(hOK x hx).R, (hOK x hx).W, (hOK x hx).B⟩
 have htake : ∀ p ∈ (xs.map (·.1)).take n, rightD p = true ∧ WfD p ∧ Byt p.r := fun p hp => hall p (List.mem_of_mem_take hp)
 have hnl : n < xs.length := by
  obtain ⟨h1, _⟩ := List.getElem?_eq_some_iff.1 hon
  simpa using h1
 have hln : ((xs.map (·.1)).take n).length = n := by rw [List.length_take, List.length_map]; omega
 by_cases hm0 : m = 0
 ·subst hm0; rw [List.take_zero, List.append_nil] at htk; rw [htk] at h; obtain rfl : cn = (scB ((xs.map (·.1)).take n)).length := hcm; refine (Cd.split_ok A c _ W h hc (by omega) (fun p hp => (htake p hp).1) (fun p hp => (htake p hp).2.1) (fun p hp => (htake p hp).2.2)).mono ?_; rintro e w' ⟨aY, cY, ys, rfl, hR, hM, hL, hB⟩; have hl : ys.length = n := by have := congrArg List.length hM; rw [List.length_map, hln] at this; exact this
  exact ⟨aY, ys.length, cY, _, rfl, .inl ⟨rfl, hl, rfl⟩, hB⟩
 ·have e : scP ((xs.map (·.1)).take n) ((sB o).take m) 0 = bs.take cn := by rw [htk]; rfl
  have el : (scP ((xs.map (·.1)).take n) ((sB o).take m) 0).length = cn := by
   rw [scP, List.drop_zero, List.length_append, List.length_take]; omega
  have ho := hall o (List.mem_of_getElem? hon)
  have hl8 : ((sB o).take m).length ≤ 300008 := by
   have h2 : (sB o).length = 8 + (oBy o).length := by unfold Cd.sB; rw [List.length_append, be8_len]
   have h3 := oBy_le ho.1; rw [List.length_take]; omega
  have h1 := Cd.split_cut A c ((xs.map (·.1)).take n) ((sB o).take m) W (by rw [el, e]; exact h) (by rw [el]; exact hc) (by rw [List.length_take]; omega) hl8 (fun y hy => Cd.byt_sB o y (List.mem_of_mem_take hy)) (Cd.next_part ho.1 hm) (by omega) (fun p hp => (htake p hp).1) (fun p hp => (htake p hp).2.1) (fun p hp => (htake p hp).2.2); rw [el] at h1; refine h1.mono ?_; rintro e w' ⟨u, rfl, hch, hB⟩; rw [hln] at hch; exact ⟨none, 0, 0, u, rfl, .inr ⟨by omega, rfl, hch⟩, hB⟩
theorem cut_rows {P : Program} {α : Type} (d : Kd α) (t e : TypeId) {z : Value} {bytes : Nat} (ht : P.underlying t = some (.slice e)) (hinfo : (P.info? e).map (fun i => (i.zero, i.size, i.bytes)) = some (some z, d.sz, bytes)) {w : World} {A : Option Addr} {c : Nat} {xs : List α} (h : d.C w A xs.length xs) (hc : xs.length ≤ c) (k : Nat) (hk : k ≤ xs.length) :
  ((∀ W : World, (Instr.slice t (.slice A xs.length c) none (some (.int .i64 (k : Int))) none).run P W = .ok (.slice A (xs.take k).length c) W) ∧ d.C w A (xs.take k).length (xs.take k)) ∧
  ∃ (A' : Option Addr) (c' : Nat), (∀ W : World, (Instr.slice t (.slice A xs.length c) (some (.int .i64 (k : Int))) none none).run P W = .ok (.slice A' (xs.drop k).length c') W) ∧ d.C w A' (xs.drop k).length (xs.drop k) := by
 obtain ⟨i0, hi, hzz⟩ := Option.map_eq_some_iff.1 hinfo; simp only [Prod.mk.injEq] at hzz; refine ⟨⟨fun W => ?_, Kd.C_take h hk⟩, _, c - k, fun W => ?_, Kd.C_drop h hk hc⟩
 ·have := cut_to t e .i64 ht hi A xs.length c (k : Int) (by omega) (by omega) hc W; rw [this, List.length_take, Nat.min_eq_left hk]
  simp
 ·have := cut_from t e .i64 ht hi d.sz hzz.2.1 A xs.length c (k : Int) (by omega) (by omega) W; rw [this, List.length_drop]
  simp
theorem own_zeroR (w : World) : Kd.R kOp 30 (w.alloc (.cells #[] 30)) w.heap.size (fun _ => True) (.slice (some ⟨w.heap.size, 0, none⟩) 0 0) [] := by
 have h := World.ownsRow_lit (base := w.heap.size) (e := 30) (size := 9) w #[] 0 (Nat.le_refl _) (by simp [maxLen]) rfl; exact ⟨fun _ _ => trivial, [], h, Reps.none _ _⟩
theorem C_op1 {w : World} {g : Nat} {t : TypeId} (x : OpX) (h : w.heap[g]? = some (.cells #[.int .i64 x.1.k, .int .i64 x.1.c, .int .i64 x.1.q, .int .i64 x.1.h, .int .i64 x.1.a, .int .i64 x.1.t, .slice x.2.1.1 x.1.p.length x.2.1.2, .slice x.2.2.1.1 x.1.s.length x.2.2.1.2, .slice x.2.2.2.1 x.1.r.length x.2.2.2.2] t (0, 0))) : Kd.C kOp w (some ⟨g, 0, none⟩) 1 [x] := by
 refine ⟨rfl, by decide, fun _ => ⟨⟨g, 0, none⟩, rfl, fun i y hy => ?_⟩⟩
 obtain ⟨rfl, rfl⟩ : i = 0 ∧ y = x := by
  rcases i with _ | i
  ·exact ⟨rfl, (Option.some.inj hy).symm⟩
  ·simp at hy
 refine ⟨Cd.opCells y, rfl, rfl, fun j u hu => ?_⟩; rw [add_plain, blk_cell h _]
 simpa [Cd.opCells] using hu
def oddX : OpX := (⟨99, 0, 0, 0, 0, 0, [], [], []⟩, (none, 0), (none, 0), (none, 0))
theorem odd_wrong : rightD oddX.1 = false := by decide
theorem odd_mem {xs : List OpX} {bn : Nat} {x : OpX} (h : x ∈ ([] ++ xs.take bn ++ [oddX]) ++ xs.drop bn) : x ∈ xs ∨ x = oddX := by
 simp only [List.nil_append, List.mem_append, List.mem_singleton] at h; rcases h with (h | h) | h
 ·exact .inl (List.mem_of_mem_take h)
 ·exact .inr h
 ·exact .inl (List.mem_of_mem_drop h)
theorem odd_byt (xs : List OpX) (bn : Nat) (h : ∀ x ∈ xs, OkX x) : ∀ x ∈ ([] ++ xs.take bn ++ [oddX]) ++ xs.drop bn, Byt x.1.r := fun x hx => by
 rcases odd_mem hx with h1 | rfl
 ·exact (h x h1).B
 ·intro y hy; cases hy
theorem odd_lies (xs : List OpX) (bn : Nat) {w : World} (h : ∀ x ∈ xs, LiesX w x) : ∀ x ∈ ([] ++ xs.take bn ++ [oddX]) ++ xs.drop bn, LiesX w x := fun x hx => by
 rcases odd_mem hx with h1 | rfl
 ·exact h x h1
 ·exact ⟨Cd.nilCo _, Cd.nilAt _, Cd.nilR _⟩
theorem odd_right (xs : List OpX) (bn : Nat) (hb : bn ≤ xs.length) (h : ∀ x ∈ xs, OkX x) : ∀ i x, i < bn → (([] ++ xs.take bn ++ [oddX]) ++ xs.drop bn)[i]? = some x → rightD x.1 = true := fun i x hi hx => by
 by_cases hl : i < (xs.take bn).length
 ·rw [List.nil_append, List.append_assoc, List.getElem?_append_left hl] at hx; exact (h x (List.mem_of_mem_take (List.mem_of_getElem? hx))).R
 ·rw [List.length_take] at hl; omega
theorem odd_at (xs : List OpX) (bn : Nat) (hb : bn ≤ xs.length) : ∀ x, (([] ++ xs.take bn ++ [oddX]) ++ xs.drop bn)[bn]? = some x → rightD x.1 = false := fun x hx => by
 have hl : (xs.take bn).length = bn := by rw [List.length_take]; omega
 rw [List.nil_append, List.append_assoc, List.getElem?_append_right (by omega), hl, Nat.sub_self] at hx; obtain rfl := Option.some.inj hx; exact odd_wrong
end Go.Proofs.YtbplemhjhpfkgaaDoor.Cs
namespace Go.Proofs.YtbplemhjhpfkgaaDoor.Cs
open Go.ChangeShapes Go.WideShapes Go.RowKit YtbplemhjhpfkgaaDoorW.PrintWords YtbplemhjhpfkgaaDoorW.PrintLast YtbplemhjhpfkgaaDoorW.PrintMore Rd
open Go.Proofs.YtbplemhjhpfkgaaDoor.Wr (BOp BOpIn bW RowX RowIn KeyM KeyIn open_rowK open_twoK)
open Go.Proofs.YtbplemhjhpfkgaaDoor.Cd (InI64)
set_option maxRecDepth 100000
section
variable {H : Type} {enc : TypeId × Value → H} {w : World} {base : Nat} {spare : Nat → Bool} {held : Bool}
theorem cellsI : Tryd.prog.cellsOf 3 = 1 := by kernel_rfl
theorem open_keyC {fuel : Nat} {cs : List Value} {x : DataW H × List MemPlace} (h : DataW.trod enc Tryd.prog w base spare held fuel 53 cs = some x) :
  ∃ y : KeyM, cs = [.int .i64 y.a0, .int .i64 y.a1, .int .i64 y.a2, .int .i64 y.a3, .int .i64 y.a4, .slice y.p.A y.p.l.length y.p.c, .slice y.q.A y.q.l.length y.q.c, .slice y.r.A y.r.l.length y.r.c, .slice y.s.A y.s.l.length y.s.c] ∧ KeyIn w y := by
 obtain ⟨ys, n, _, _, hl, hlen, hf⟩ := DataW.trod_struct Tryd.underlying53 h; rw [show Tryd.prog.cellsOf 53 = 9 by kernel_rfl] at hl; have g0 := hf 0 _ rfl; have g1 := hf 1 _ rfl; have g2 := hf 2 _ rfl; have g3 := hf 3 _ rfl; have g4 := hf 4 _ rfl; have g5 := hf 5 _ rfl; have g6 := hf 6 _ rfl
 match cs, hl, ys, hlen with
 | [c0, c1, c2, c3, c4, c5, c6, c7, c8], _, [y0, y1, y2, y3, y4, y5, y6], _ =>
  simp [cellsI, show Tryd.prog.cellsOf 36 = 2 by kernel_rfl, show Tryd.prog.cellsOf 37 = 2 by kernel_rfl] at g0 g1 g2 g3 g4 g5 g6
  obtain ⟨k0, e0, _, w0⟩ := DataW.trod_int Tryd.underlying3 g0; obtain ⟨k1, e1, _, w1⟩ := DataW.trod_int Tryd.underlying3 g1; obtain ⟨k2, e2, _, w2⟩ := DataW.trod_int Tryd.underlying3 g2; obtain ⟨k3, e3, _, w3⟩ := DataW.trod_int Tryd.underlying3 g3; obtain ⟨k4, e4, _, w4⟩ := DataW.trod_int Tryd.underlying3 g4; obtain ⟨x5, x6, e5, i5, i6⟩ := open_twoK Tryd.underlying36 ⟨rfl, rfl⟩ ⟨rfl, rfl⟩ (by kernel_rfl) g5; obtain ⟨x7, x8, e7, i7, i8⟩ := open_twoK Tryd.underlying37 ⟨rfl, rfl⟩ ⟨rfl, rfl⟩ (by kernel_rfl) g6; simp at e0 e1 e2 e3 e4 e5 e7; obtain ⟨e5, e6⟩ := e5; obtain ⟨e7, e8⟩ := e7; subst e0 e1 e2 e3 e4 e5 e6 e7 e8; exact ⟨⟨k0, k1, k2, k3, k4, x5, x6, x7, x8⟩, rfl, ⟨i5, i6, i7, i8⟩⟩
theorem open_bop {fuel : Nat} {cs : List Value} {x : DataW H × List MemPlace} (h : DataW.trod enc Tryd.prog w base spare held fuel 85 cs = some x) :
  ∃ y : BOp, cs = bCells y ∧ BOpIn w y ∧ InI64 y.h := by
 obtain ⟨ys, n, _, _, hl, hlen, hf⟩ := DataW.trod_struct Tryd.underlying85 h; rw [show Tryd.prog.cellsOf 85 = 19 by kernel_rfl] at hl; have g0 := hf 0 _ rfl; have g1 := hf 1 _ rfl; have g2 := hf 2 _ rfl; have g3 := hf 3 _ rfl; have g4 := hf 4 _ rfl; have g5 := hf 5 _ rfl; have g6 := hf 6 _ rfl; have g7 := hf 7 _ rfl; have g8 := hf 8 _ rfl
 match cs, hl, ys, hlen with
 | [c0, c1, c2, c3, c4, c5, c6, c7, c8, c9, c10, c11, c12, c13, c14, c15, c16, c17, c18], _, [y0, y1, y2, y3, y4, y5, y6, y7, y8], _ =>
  simp [cellsI, show Tryd.prog.cellsOf 36 = 2 by kernel_rfl, show Tryd.prog.cellsOf 37 = 2 by kernel_rfl, show Tryd.prog.cellsOf 53 = 9 by kernel_rfl] at g0 g1 g2 g3 g4 g5 g6 g7 g8
  obtain ⟨k0, e0, _, w0⟩ := DataW.trod_int Tryd.underlying3 g0; obtain ⟨k1, e1, _, w1⟩ := DataW.trod_int Tryd.underlying3 g1; obtain ⟨k2, e2, _, w2⟩ := DataW.trod_int Tryd.underlying3 g2; obtain ⟨k3, e3, _, w3⟩ := DataW.trod_int Tryd.underlying3 g3; obtain ⟨k4, e4, _, w4⟩ := DataW.trod_int Tryd.underlying3 g4; obtain ⟨k5, e5, _, w5⟩ := DataW.trod_int Tryd.underlying3 g5; obtain ⟨x6, x7, e6, i6, i7⟩ := open_twoK Tryd.underlying36 ⟨rfl, rfl⟩ ⟨rfl, rfl⟩ (by kernel_rfl) g6; obtain ⟨x8, x9, e8, i8, i9⟩ := open_twoK Tryd.underlying37 ⟨rfl, rfl⟩ ⟨rfl, rfl⟩ (by kernel_rfl) g7; obtain ⟨m, em, im⟩ := open_keyC g8; simp at e0 e1 e2 e3 e4 e5 e6 e8 em; obtain ⟨e6, e7⟩ := e6; obtain ⟨e8, e9⟩ := e8; obtain ⟨m0, m1, m2, m3, m4, m5, m6, m7, m8⟩ := em; subst e0 e1 e2 e3 e4 e5 e6 e7 e8 e9 m0 m1 m2 m3 m4 m5 m6 m7 m8; exact ⟨⟨k0, k1, k2, k3, k4, k5, x6, x7, x8, x9, m⟩, rfl, ⟨i6, i7, i8, i9, im⟩, bounds_i64 w3⟩
structure SopX where
 A : Option Addr
 c : Nat
 l : List BOp
structure SopIn (w : World) (x : SopX) : Prop where
 C : Kd.C kB w x.A x.l.length x.l
 le : x.l.length ≤ x.c
 i : ∀ y ∈ x.l, BOpIn w y ∧ InI64 y.h
theorem open_bops {r : Reach} {b0 : Nat} {v : Value} {d : DataW H} {p : List MemPlace} (hv : Value.okWide Tryd.prog w r b0 77 v) (h : DataW.Trod enc Tryd.prog w base spare held 77 v d p) :
  ∃ x : SopX, v = .slice x.A x.l.length x.c ∧ SopIn w x := by
 obtain ⟨a0, l0, c0, rfl⟩ := okWide_slice Tryd.underlying77 hv; obtain ⟨fuel, hf0⟩ := h; obtain ⟨A8, m8, xs8, e8, l8, _, hC8, hQ8⟩ := Wr.open_flatM (en := bCells) (sz := 19) (hl := fun _ => rfl) (h1 := by intro x u hu; simp [bCells] at hu; rcases hu with rfl | rfl | rfl | rfl | rfl | rfl | rfl | rfl | rfl | rfl | rfl | rfl | rfl | rfl | rfl | rfl | rfl | rfl | rfl <;> rfl) (Q := fun y => BOpIn w y ∧ InI64 y.h) Tryd.underlying77 (by kernel_rfl) (fun _ _ _ h => open_bop h) hf0
 simp [Value.cells] at e8
 obtain ⟨rfl, rfl, rfl⟩ := e8; exact ⟨⟨_, _, xs8⟩, rfl, ⟨hC8, l8, hQ8⟩⟩
theorem open_graph {r : Reach} {b0 : Nat} {v : Value} {d : DataW H} {p : List MemPlace} (hv : Value.okWide Tryd.prog w r b0 76 v) (h : DataW.Trod enc Tryd.prog w base spare held 76 v d p) :
  ∃ x : GKey, v = gW x ∧ GKeyIn w x := by
 obtain ⟨cs, rfl, hsz⟩ := okWide_struct Tryd.underlying76 hv; rw [show Tryd.prog.cellsOf 76 = 3 by kernel_rfl] at hsz; obtain ⟨l⟩ := cs; obtain ⟨fuel, hf0⟩ := h; obtain ⟨ys, n, _, _, hl, hlen, hf⟩ := DataW.trod_struct Tryd.underlying76 hf0; have g0 := hf 0 _ rfl; have g1 := hf 1 _ rfl; have g2 := hf 2 _ rfl
 match l, hsz, ys, hlen with
 | [c0, c1, c2], _, [y0, y1, y2], _ =>
  simp [Value.cells, cellsI, show Tryd.prog.cellsOf 34 = 1 by kernel_rfl] at g0 g1 g2
  obtain ⟨k0, e0, _, w0⟩ := DataW.trod_int Tryd.underlying3 g0; obtain ⟨r1, e1, i1⟩ := open_rowK g1; obtain ⟨r2, e2, i2⟩ := open_rowK g2; simp at e0 e1 e2; subst e0 e1 e2; exact ⟨⟨k0, r1, r2⟩, rfl, ⟨i1, i2⟩⟩
end
end Go.Proofs.YtbplemhjhpfkgaaDoor.Cs

/-
  code.Split at a script's bytes.
-/
import Derived.Test.YtbplemhjhpfkgaaDoorNext
namespace Go.Proofs.YtbplemhjhpfkgaaDoor.Cd
open Go.RowKit Go.Proofs.YtbplemhjhpfkgaaDoorW.PrintWords Go.Proofs.YtbplemhjhpfkgaaDoorW.PrintLast Go.Proofs.YtbplemhjhpfkgaaDoorW.PrintMore Go.Proofs.YtbplemhjhpfkgaaDoor.Rd
open Go.Proofs.YtbplemhjhpfkgaaDoor.Ft (Door Chain new_chain kind_calls chain_iface)
set_option linter.unusedVariables false
set_option linter.unusedSimpArgs false
def scB (os : List OpD) : List Int := os.flatMap sB
theorem byt_sB (o : OpD) : Byt (sB o) := byt_app (be8_by _) (byt_opB _ _ _ _ _ _ _ _ _)
theorem byt_scB (os : List OpD) : Byt (scB os) := byt_flatMap _ byt_sB os
theorem scB_drop {os : List OpD} {j : Nat} {o : OpD} (h : os[j]? = some o) : scB (os.drop j) = sB o ++ scB (os.drop (j + 1)) := by
  obtain ⟨hj, rfl⟩ := List.getElem?_eq_some_iff.1 h
  rw [List.drop_eq_getElem_cons hj]
  rfl
theorem scB_le {os : List OpD} (h : ∀ x ∈ os, rightD x = true) : (scB os).length ≤ 300008 * os.length := by
  induction os with
  | nil => simp [scB]
  | cons x xs ih =>
    have h1 := ih (fun y hy => h y (by simp [hy]))
    have h2 := sB_le (h x (by simp))
    simp only [scB, List.flatMap_cons, List.length_append, List.length_cons] at h1 ⊢
    omega
theorem sB_pos (o : OpD) : 0 < (sB o).length := by simp only [sB, List.length_append, be8_len]; omega
set_option maxRecDepth 100000 in
set_option maxHeartbeats 16000000 in
theorem split_ok (A : Option Addr) (c : Nat) (os : List OpD) (w : World) (hr : Kd.C (Kd.int .u8) w A (scB os).length (scB os)) (hc : (scB os).length ≤ c) (hn : os.length ≤ 100) (hR : ∀ o ∈ os, rightD o = true) (hw : ∀ o ∈ os, WfD o) (hb : ∀ o ∈ os, Byt o.r) :
    Calls Tryd.prog 33 #[.slice A (scB os).length c] w fun e w' => ∃ (aO : Option Addr) (cO : Nat) (xs : List OpX), e = .returned (.tuple #[.slice aO xs.length cO, .nilIface]) ∧ Kd.R kOp 30 w' w.heap.size (fun _ => True) (.slice aO xs.length cO) xs ∧ xs.map (·.1) = os ∧ (∀ x ∈ xs, LiesX w' x) ∧ Below w.heap.size w w' := by
  have HLe : Hid (∀ j, (scB (os.drop j)).length ≤ 30000800) := Lib.hid (fun j => by
    have h1 := scB_le (os := os.drop j) (fun y hy => hR y (List.mem_of_mem_drop hy))
    rw [List.length_drop] at h1
    have : os.length - j ≤ 100 := by omega
    omega)
  have HNx : Hid (∀ j o, os[j]? = some o → ∀ A c W, Kd.C (Kd.int .u8) W A (scB (os.drop j)).length (scB (os.drop j)) → (scB (os.drop j)).length ≤ c → Calls Tryd.prog 67 #[.slice A (scB (os.drop j)).length c] W fun e w' => ∃ (x : OpX) (A' : Option Addr) (c' : Nat), x.1 = o ∧ e = .returned (.tuple #[.agg #[.int .i64 x.1.k, .int .i64 x.1.c, .int .i64 x.1.q, .int .i64 x.1.h, .int .i64 x.1.a, .int .i64 x.1.t, .slice x.2.1.1 x.1.p.length x.2.1.2, .slice x.2.2.1.1 x.1.s.length x.2.2.1.2, .slice x.2.2.2.1 x.1.r.length x.2.2.2.2], .slice A' (scB (os.drop (j + 1))).length c', .nilIface]) ∧ (scB (os.drop (j + 1))).length ≤ c' ∧ (∀ V, Kd.C (Kd.int .u8) V A (scB (os.drop j)).length (scB (os.drop j)) → Kd.C (Kd.int .u8) V A' (scB (os.drop (j + 1))).length (scB (os.drop (j + 1)))) ∧ LiesX w' x ∧ PastX W.heap.size x ∧ Below W.heap.size W w') :=
    Lib.hid (fun j o ho A c W h hc => by
      have hm := HLe.out j
      rw [scB_drop ho] at h hc hm ⊢
      have hmem := List.mem_of_getElem? ho
      exact next_ok A c o _ W h hc (by omega) (byt_scB _) (hR o hmem) (hw o hmem) (hb o hmem))
  have HR := Aside0.mk hr
  clear hr hR hw hb
  go_enter Tryd.func33, Tryd.ntmps33
  go_upto_region 2 with fail
  go_loopw [0, 4] (fun b v wr => ∃ (j : Nat) (A' : Option Addr) (c' : Nat) (xs : List OpX) (aO : Option Addr) (cO : Nat), j ≤ os.length ∧ b = .slice A' (scB (os.drop j)).length c' ∧ (scB (os.drop j)).length ≤ c' ∧ v = .slice aO xs.length cO ∧ xs.length ≤ j ∧ Aside0 (Kd.C (Kd.int .u8) w A' (scB (os.drop j)).length (scB (os.drop j))) ∧ Aside0 (Kd.R kOp 30 wr w.heap.size (fun _ => True) (.slice aO xs.length cO) xs) ∧ Aside0 (xs.map (·.1) = os.take j) ∧ Aside0 (∀ x ∈ xs, LiesX wr x ∧ OffX (Value.slice aO xs.length cO).ownBlock x) ∧ Aside0 (Below w.heap.size w wr)) (fun b _ _ => match b with | .slice _ n _ => n | _ => 0)
  case atStart => exact ⟨0, A, c, [], none, 0, Nat.zero_le _, rfl, hc, rfl, Nat.le_refl _, HR, ⟨Kd.R_nil _ _ _ _ _⟩, ⟨rfl⟩, ⟨fun x hx => by cases hx⟩, ⟨Below.refl _ _⟩⟩
  case round =>
    obtain ⟨j, A', c', xs, aO, cO, hj, rfl, hc', rfl, hxj, HC, HO, HM, HX, HW⟩ := hrel
    by_cases hlt : j < os.length
    · obtain ⟨o, ho⟩ : ∃ o, os[j]? = some o := ⟨_, List.getElem?_eq_getElem hlt⟩
      have hpos : 0 < (scB (os.drop j)).length := by rw [scB_drop ho, List.length_append]; have := sB_pos o; omega
      have hls : (scB (os.drop (j + 1))).length < (scB (os.drop j)).length := by rw [scB_drop ho, List.length_append]; have := sB_pos o; omega
      have hd0 : decide (((scB (os.drop j)).length : Int) > 0) = true := decide_eq_true (by omega)
      have HN := Lib.hid (HNx.out j o ho A' c')
      have HT : Hid (os.take (j + 1) = os.take j ++ [o]) := Lib.hid (by obtain ⟨hj', rfl⟩ := List.getElem?_eq_some_iff.1 ho; exact List.take_succ_eq_append_getElem hj')
      clear ho
      generalize scB (os.drop j) = bj at *
      generalize hbn : scB (os.drop (j + 1)) = bn at *
      have HBN := Lib.hid hbn
      clear hbn
      have hn100 : xs.length ≤ 100 := by omega
      go_upto_region 4 with (go_at_call 67; refine (HN.out _ (Kd.C_below HC.out HW.out) hc').mono ?_; rintro e w2 ⟨x, A2, c2, hx, rfl, hc2, hC2, hL2, hP2, hB⟩; have HX2 := Lib.hid hx; have HC3 := Aside0.mk (hC2 w HC.out); have HX3 : Aside0 (∀ y ∈ xs ++ [x], LiesX (w2.alloc (.cells #[.int .i64 x.1.k, .int .i64 x.1.c, .int .i64 x.1.q, .int .i64 x.1.h, .int .i64 x.1.a, .int .i64 x.1.t, .slice x.2.1.1 x.1.p.length x.2.1.2, .slice x.2.2.1.1 x.1.s.length x.2.2.1.2, .slice x.2.2.2.1 x.1.r.length x.2.2.2.2] 30)) y ∧ OffX (Value.slice aO xs.length cO).ownBlock y) := ⟨fun y hy => (List.mem_append.1 hy).elim (fun h => ⟨Lies.below (Lies.below (HX.out y h).1 hB) (below_alloc (Below.refl w2.heap.size w2) (.cells #[.int .i64 x.1.k, .int .i64 x.1.c, .int .i64 x.1.q, .int .i64 x.1.h, .int .i64 x.1.a, .int .i64 x.1.t, .slice x.2.1.1 x.1.p.length x.2.1.2, .slice x.2.2.1.1 x.1.s.length x.2.2.1.2, .slice x.2.2.2.1 x.1.r.length x.2.2.2.2] 30)), (HX.out y h).2⟩) (fun h => by rw [List.mem_singleton.1 h]; exact ⟨Lies.below hL2 (below_alloc (Below.refl w2.heap.size w2) (.cells #[.int .i64 x.1.k, .int .i64 x.1.c, .int .i64 x.1.q, .int .i64 x.1.h, .int .i64 x.1.a, .int .i64 x.1.t, .slice x.2.1.1 x.1.p.length x.2.1.2, .slice x.2.2.1.1 x.1.s.length x.2.2.1.2, .slice x.2.2.2.1 x.1.r.length x.2.2.2.2] 30)), OffX_past hP2 (fun k hk => Kd.R_lt HO.out k hk)⟩)⟩; replace HO := Aside0.mk (Kd.R_alloc (Kd.R_below HO.out hB) (.cells #[.int .i64 x.1.k, .int .i64 x.1.c, .int .i64 x.1.q, .int .i64 x.1.h, .int .i64 x.1.a, .int .i64 x.1.t, .slice x.2.1.1 x.1.p.length x.2.1.2, .slice x.2.2.1.1 x.1.s.length x.2.2.1.2, .slice x.2.2.2.1 x.1.r.length x.2.2.2.2] 30)); replace HW := Aside0.mk (below_alloc (below_step HW.out hB) (.cells #[.int .i64 x.1.k, .int .i64 x.1.c, .int .i64 x.1.q, .int .i64 x.1.h, .int .i64 x.1.a, .int .i64 x.1.t, .slice x.2.1.1 x.1.p.length x.2.1.2, .slice x.2.2.1.1 x.1.s.length x.2.2.1.2, .slice x.2.2.2.1 x.1.r.length x.2.2.2.2] 30)); have HQ := Aside0.mk (blk_new w2 (.cells #[.int .i64 x.1.k, .int .i64 x.1.c, .int .i64 x.1.q, .int .i64 x.1.h, .int .i64 x.1.a, .int .i64 x.1.t, .slice x.2.1.1 x.1.p.length x.2.1.2, .slice x.2.2.1.1 x.1.s.length x.2.2.1.2, .slice x.2.2.2.1 x.1.r.length x.2.2.2.2] 30)); clear hx hC2 hL2 hP2 hB)
      generalize (w2.alloc (.cells #[.int .i64 x.1.k, .int .i64 x.1.c, .int .i64 x.1.q, .int .i64 x.1.h, .int .i64 x.1.a, .int .i64 x.1.t, .slice x.2.1.1 x.1.p.length x.2.1.2, .slice x.2.2.1.1 x.1.s.length x.2.2.1.2, .slice x.2.2.2.1 x.1.r.length x.2.2.2.2] 30)) = wq at *
      generalize w2.heap.size = bq at *
      have q0 := (blk_cell HQ.out 0).trans (rfl : _ = some (Value.int .i64 x.1.k))
      have q1 := (blk_cell HQ.out 1).trans (rfl : _ = some (Value.int .i64 x.1.c))
      have q2 := (blk_cell HQ.out 2).trans (rfl : _ = some (Value.int .i64 x.1.q))
      have q3 := (blk_cell HQ.out 3).trans (rfl : _ = some (Value.int .i64 x.1.h))
      have q4 := (blk_cell HQ.out 4).trans (rfl : _ = some (Value.int .i64 x.1.a))
      have q5 := (blk_cell HQ.out 5).trans (rfl : _ = some (Value.int .i64 x.1.t))
      have q6 := (blk_cell HQ.out 6).trans (rfl : _ = some (Value.slice x.2.1.1 x.1.p.length x.2.1.2))
      have q7 := (blk_cell HQ.out 7).trans (rfl : _ = some (Value.slice x.2.2.1.1 x.1.s.length x.2.2.1.2))
      have q8 := (blk_cell HQ.out 8).trans (rfl : _ = some (Value.slice x.2.2.2.1 x.1.r.length x.2.2.2.2))
      have hlq := blk_lt HQ.out
      go_wp2_with ((with_reducible refine gate_builtin (b := .append) (xs := #[.tmp 23, .tmp 25]) rfl ?_); at_builtin; refine Kd.R_append (kOp) (w0 := w) (w.heap.size) rfl (.tmp 23) (.tmp 25) 70 30 (.agg #[(.int .i64 0), (.int .i64 0), (.int .i64 0), (.int .i64 0), (.int .i64 0), (.int .i64 0), (.slice none 0 0), (.slice none 0 0), (.slice none 0 0)]) 120 rfl Tryd.underlying70 infoOp rfl (by decide) (by omega) (.slice aO xs.length cO) (xs) (x) [.int .i64 x.1.k, .int .i64 x.1.c, .int .i64 x.1.q, .int .i64 x.1.h, .int .i64 x.1.a, .int .i64 x.1.t, .slice x.2.1.1 x.1.p.length x.2.1.2, .slice x.2.2.1.1 x.1.s.length x.2.2.1.2, .slice x.2.2.2.1 x.1.r.length x.2.2.2.2] (fun _ => True) (fun _ => False) rfl ?aX ?aP (fun _ hk => hk.elim) ?aF ?aO ?aB ?aS ?aL ?_; (case aX => first | rfl | (simp [Act.eval]; done)); (case aP => exact rfl); (case aB => exact (by repeat (with_reducible first | exact HW.out | apply below_alloc | apply pw_below_drewN | apply below_drew1))); (case aF => exact (fun _ _ => trivial)); (case aO => exact (by (with_reducible repeat (first | apply Kd.R_alloc | apply Kd.R_drewN | apply Kd.R_drew)); exact HO.out)); (case aS => exact (below_size (by repeat (with_reducible first | exact HW.out | apply below_alloc | apply pw_below_drewN | apply below_drew1)))); (case aL => omega); intro v1 w1 ho hb hg hat; obtain ⟨A1, c1, rfl⟩ := Kd.R_slice ho; have HO1 := Aside0.mk ho; have HW1 := Aside0.mk hb; have HX4 : Aside0 (∀ y ∈ xs ++ [x], LiesX w1 y ∧ OffX (Value.slice A1 (xs ++ [x]).length c1).ownBlock y) := ⟨fun y hy => ⟨LiesX_grown (HX3.out y hy).1 hg (HX3.out y hy).2, OffX_at (HX3.out y hy).1 (HX3.out y hy).2 hat⟩⟩; clear ho hb hg hat)
      go_roundw
      case rel => exact ⟨j + 1, A2, c2, xs ++ [x], A1, c1, by omega, by rw [HBN.out], by rw [HBN.out]; exact hc2, by rw [List.length_append, List.length_singleton], by simp only [List.length_append, List.length_singleton]; omega, by rw [HBN.out]; exact HC3, HO1, ⟨by rw [List.map_append, HM.out, HT.out]; simp [HX2.out]⟩, HX4, HW1⟩
      case measure => simp; omega
    · obtain rfl : j = os.length := by omega
      have hd0 : decide (((scB (os.drop os.length)).length : Int) > 0) = false := by simp [scB]
      rw [List.take_length] at HM
      go_wp2
      go_ret2
      exact ⟨aO, cO, xs, rfl, HO.out, HM.out, fun x hx => (HX.out x hx).1, HW.out⟩
theorem two_of_map {α β : Type} {xs : List (α × β)} {o p : α} (h : xs.map (·.1) = [o, p]) : ∃ y0 y1, xs = [y0, y1] ∧ y0.1 = o ∧ y1.1 = p := by
  rcases xs with _ | ⟨a, _ | ⟨b, _ | ⟨c, r⟩⟩⟩
  · simp at h
  · simp at h
  · simp only [List.map_cons, List.map_nil, List.cons.injEq, and_true] at h
    exact ⟨a, b, rfl, h.1, h.2⟩
  · simp at h
theorem split_two {o p : OpD} (A : Option Addr) (c : Nat) (w : World) (hr : Kd.C (Kd.int .u8) w A (scB [o, p]).length (scB [o, p])) (hc : (scB [o, p]).length ≤ c) (ho : rightD o = true) (hp : rightD p = true) (wo : WfD o) (wp : WfD p) (bo : Byt o.r) (bp : Byt p.r) :
    Calls Tryd.prog 33 #[.slice A (scB [o, p]).length c] w fun e w' => ∃ (adL : Addr) (cO : Nat) (y0 y1 : OpX), e = .returned (.tuple #[.slice (some adL) 2 cO, .nilIface]) ∧ Kd.C kOp w' (some adL) 2 [y0, y1] ∧ y0.1 = o ∧ y1.1 = p ∧ LiesX w' y0 ∧ LiesX w' y1 ∧ Below w.heap.size w w' := by
  refine (split_ok A c [o, p] w hr hc (by simp) (fun x hx => by simp only [List.mem_cons, List.not_mem_nil, or_false] at hx; rcases hx with rfl | rfl; exact ho; exact hp) (fun x hx => by simp only [List.mem_cons, List.not_mem_nil, or_false] at hx; rcases hx with rfl | rfl; exact wo; exact wp) (fun x hx => by simp only [List.mem_cons, List.not_mem_nil, or_false] at hx; rcases hx with rfl | rfl; exact bo; exact bp)).mono ?_
  rintro e w' ⟨aO, cO, xs, rfl, hR, hM, hL, hB⟩
  obtain ⟨y0, y1, rfl, h0, h1⟩ := two_of_map hM
  have hC := (Kd.R_reads' hR).2.2
  obtain ⟨ad, rfl, _⟩ := hC.2.2 (by simp)
  exact ⟨ad, cO, y0, y1, rfl, hC, h0, h1, hL y0 (by simp), hL y1 (by simp), hB⟩
theorem split_none (w : World) : Calls Tryd.prog 33 #[.slice none 0 0] w fun e w' => ∃ (aN : Option Addr) (cN : Nat), e = .returned (.tuple #[.slice aN 0 cN, .nilIface]) ∧ Below w.heap.size w w' := by
  have h0 : scB [] = [] := rfl
  have h := split_ok none 0 [] w (by rw [h0]; exact nilR w) (by rw [h0]; exact Nat.le_refl _) (Nat.zero_le _) (fun x hx => by cases hx) (fun x hx => by cases hx) (fun x hx => by cases hx)
  rw [h0, List.length_nil] at h
  refine h.mono ?_
  rintro e w' ⟨aO, cO, xs, rfl, hR, hM, hL, hB⟩
  obtain rfl : xs = [] := by simpa using hM
  exact ⟨aO, cO, rfl, hB⟩
theorem op_at0 {w : World} {ad : Addr} {u : OpD} {C6 C7 C8 : Option Addr} {Cm6 Cm7 Cm8 : Nat} {y : OpX} (h : Kd.C kOp w (some ad) 2 [((u, (C6, Cm6), (C7, Cm7), (C8, Cm8)) : OpX), y]) : w.cell? ad = some (.int .i64 u.k) ∧ w.cell? ⟨ad.block, ad.off + 1, none⟩ = some (.int .i64 u.c) ∧ w.cell? ⟨ad.block, ad.off + 2, none⟩ = some (.int .i64 u.q) ∧ w.cell? ⟨ad.block, ad.off + 3, none⟩ = some (.int .i64 u.h) ∧ w.cell? ⟨ad.block, ad.off + 4, none⟩ = some (.int .i64 u.a) ∧ w.cell? ⟨ad.block, ad.off + 5, none⟩ = some (.int .i64 u.t) ∧ w.cell? ⟨ad.block, ad.off + 6, none⟩ = some (.slice C6 u.p.length Cm6) ∧ w.cell? ⟨ad.block, ad.off + 7, none⟩ = some (.slice C7 u.s.length Cm7) ∧ w.cell? ⟨ad.block, ad.off + 8, none⟩ = some (.slice C8 u.r.length Cm8) := by
  obtain ⟨ad', x, e, hx, d0, d1, d2, d3, d4, d5, d6, d7, d8⟩ := at_Op h 0 (by omega)
  obtain rfl : ad = ad' := Option.some.inj e
  obtain rfl : _ = x := Option.some.inj hx
  rw [Nat.zero_mul, add_zero_] at d0 d1 d2 d3 d4 d5 d6 d7 d8
  exact ⟨d0, d1, d2, d3, d4, d5, d6, d7, d8⟩
theorem op_at1 {w : World} {ad : Addr} {u : OpD} {D6 D7 D8 : Option Addr} {Dm6 Dm7 Dm8 : Nat} {y : OpX} (h : Kd.C kOp w (some ad) 2 [y, ((u, (D6, Dm6), (D7, Dm7), (D8, Dm8)) : OpX)]) : w.cell? ⟨ad.block, ad.off + 9, none⟩ = some (.int .i64 u.k) ∧ w.cell? ⟨ad.block, ad.off + 9 + 1, none⟩ = some (.int .i64 u.c) ∧ w.cell? ⟨ad.block, ad.off + 9 + 2, none⟩ = some (.int .i64 u.q) ∧ w.cell? ⟨ad.block, ad.off + 9 + 3, none⟩ = some (.int .i64 u.h) ∧ w.cell? ⟨ad.block, ad.off + 9 + 4, none⟩ = some (.int .i64 u.a) ∧ w.cell? ⟨ad.block, ad.off + 9 + 5, none⟩ = some (.int .i64 u.t) ∧ w.cell? ⟨ad.block, ad.off + 9 + 6, none⟩ = some (.slice D6 u.p.length Dm6) ∧ w.cell? ⟨ad.block, ad.off + 9 + 7, none⟩ = some (.slice D7 u.s.length Dm7) ∧ w.cell? ⟨ad.block, ad.off + 9 + 8, none⟩ = some (.slice D8 u.r.length Dm8) := by
  obtain ⟨ad', x, e, hx, d0, d1, d2, d3, d4, d5, d6, d7, d8⟩ := at_Op h 1 (by omega)
  obtain rfl : ad = ad' := Option.some.inj e
  obtain rfl : _ = x := Option.some.inj hx
  have ha : ad.add (1 * 9) = ⟨ad.block, ad.off + 9, none⟩ := by simp [Addr.add]
  rw [ha] at d0 d1 d2 d3 d4 d5 d6 d7 d8
  exact ⟨d0, d1, d2, d3, d4, d5, d6, d7, d8⟩
end Go.Proofs.YtbplemhjhpfkgaaDoor.Cd

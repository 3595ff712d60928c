/-
 wire.put: a message's bytes; wire.Encode of a right one.
-/
import Derived.Test.YtbplemhjhpfkgaaDoorZWireAttr
import Derived.Test.YtbplemhjhpfkgaaDoorZWireRight
namespace Go.Proofs.YtbplemhjhpfkgaaDoor.Wr
open Go.RowKit YtbplemhjhpfkgaaDoorW.PrintWords YtbplemhjhpfkgaaDoorW.PrintLast YtbplemhjhpfkgaaDoorW.PrintMore Rd
open Go.Proofs.YtbplemhjhpfkgaaDoor.Cd (Co At kCo kAt at_Co at_At C_blk64 text8_le flatMap_le take_snocF)
set_option linter.unusedVariables false
set_option linter.unusedSimpArgs false
theorem cW_le (x : Co) : (cW x).length ≤ 540 := by
 have h1 := text8_le x.1; have h2 := text8_le x.2.2.2.2; unfold cW
 split
 ·simp only [List.length_append, List.length_cons, List.length_nil, be8s_len]; omega
 ·simp only [List.length_append, List.length_cons, List.length_nil]; omega
theorem aW_le (x : At) : (aW x).length ≤ 540 := by
 have h1 := text8_le x.1; have h2 := text8_le x.2.2.2; unfold aW
 split
 ·simp only [List.length_append, List.length_cons, List.length_nil]; omega
 ·simp only [List.length_append, List.length_cons, List.length_nil, be8s_len]; omega
def iB (k ic is : Int) : List Int := if asksI k = true then be8s [ic, is] else []
def pB (k : Int) (p : List Co) : List Int := if asksP k = true then [(p.length : Int) % 256] ++ p.flatMap cW else []
def sB (k : Int) (s : List At) : List Int := if asksS k = true then [(s.length : Int) % 256] ++ s.flatMap aW else []
def msgB (m : MsgD) : List Int := [m.k % 256] ++ be8s [m.tc, m.ts] ++ iB m.k m.ic m.is ++ pB m.k m.p ++ sB m.k m.s
theorem iB_le (k ic is : Int) : (iB k ic is).length ≤ 16 := by
 unfold iB
 split
 ·simp [be8s_len]
 ·simp
theorem pB_le (k : Int) (p : List Co) : (pB k p).length ≤ 540 * p.length + 1 := by
 unfold pB
 split
 ·have h1 := flatMap_le cW 540 cW_le p; rw [List.length_append, List.length_singleton]; omega
 ·simp
theorem sB_le (k : Int) (s : List At) : (sB k s).length ≤ 540 * s.length + 1 := by
 unfold sB
 split
 ·have h1 := flatMap_le aW 540 aW_le s; rw [List.length_append, List.length_singleton]; omega
 ·simp
def wpmReg.T2 : Bool × List (List Nat × List Nat) := (true, [([], []), ([0], [0]), ([1], [1]), ([2], [2]), ([], []), ([4], [4]), ([5], [5]), ([3, 6, 6], [3, 6]), ([7, 7, 0, 1, 2, 3, 4, 5, 6, 7], [7])])
def wpmReg.B2 : List Nat := [0, 1, 3, 7, 0, 16, 48, 127, 255]
theorem wpmReg.tab2 : rtab .any (opsOf Tryd.f54 2) = wpmReg.T2 := by kernel_rfl
theorem wpmReg.bits2 : waitsOk wpmReg.T2.2 wpmReg.B2 = true := by kernel_rfl
set_option maxRecDepth 100000 in
set_option maxHeartbeats 16000000 in
theorem wput_calls (m : MsgD) (A5 : Option Addr) (m5 : Nat) (A6 : Option Addr) (m6 : Nat) (w : World) (h : LiesM w m A5 A6) (hp : m.p.length ≤ 100000) (hs : m.s.length ≤ 100000) :
  Calls Tryd.prog 54 #[mW m A5 m5 A6 m6] w fun e w' => ∃ v, e = .returned v ∧ Kd.R (Kd.int .u8) 5 w' w.heap.size (fun _ => True) v (msgB m) ∧ Below w.heap.size w w' := by
 have HL := sd h; clear h; obtain ⟨k, tc, ts, ic, is, p, s⟩ := m; have hp' : p.length ≤ 100000 := hp; have hs' : s.length ≤ 100000 := hs; clear hp hs; have HX := sd (blk_new w (.cells #[.int .i64 k, .int .i64 tc, .int .i64 ts, .int .i64 ic, .int .i64 is, .slice A5 p.length m5, .slice A6 s.length m6] 50)); have HB := sd (below_alloc (Below.refl w.heap.size w) (.cells #[.int .i64 k, .int .i64 tc, .int .i64 ts, .int .i64 ic, .int .i64 is, .slice A5 p.length m5, .slice A6 s.length m6] 50)); obtain ⟨bI, hI⟩ : ∃ b, asksI k = b := ⟨_, rfl⟩; obtain ⟨bP, hP⟩ : ∃ b, asksP k = b := ⟨_, rfl⟩; obtain ⟨bS, hS⟩ : ∃ b, asksS k = b := ⟨_, rfl⟩; have HI := Lib.hid hI; have HP := Lib.hid hP; have HA := Lib.hid hS; clear hI hP hS
 go_enter Tryd.func54, Tryd.ntmps54
 go_upto_region 2 with (first | (go_at_call 55; refine (parts_calls k _).mono ?_; rintro e wd ⟨n, rfl, b1, b2, b4, hB⟩; have b1' : (Go.bits .and .i64 n 1 != 0) = bI := (by rw [HI.out] at b1; simp only [bne, b1, Bool.not_not]); have b2' : (Go.bits .and .i64 n 2 != 0) = bP := (by rw [HP.out] at b2; simp only [bne, b2, Bool.not_not]); have b4' : (Go.bits .and .i64 n 4 != 0) = bS := (by rw [HA.out] at b4; simp only [bne, b4, Bool.not_not]); replace HX := sd (blk_below HX.out hB); replace HB := sd (below_step HB.out hB); clear hB b1 b2 b4))
 have HW := sd (Below.refl wd.heap.size wd)
 go_cut [5] (fun v wx => Aside0 (Kd.R (Kd.int .u8) 5 wx wd.heap.size (fun _ => True) v ([k % 256] ++ be8s [tc, ts])) ∧ Aside0 (Below wd.heap.size wd wx))
 case first =>
  refine start_ (n := 9) (S := fun w' => True) (ds := []) #[false, false, false, false, false, false, false, false, false] (by kernel_rfl) rfl rfl trivial (fun hHeld => ?_); refine with_tabW wpmReg.tab2 wpmReg.bits2 (fun HT_ HW_ => ?_); refine pure_ (i := 0) (N := some 16) (v := ?_) (a' := ?_) #[true, false, false, false, false, false, false, false, false] rfl rfl (any_of HT_.out (by kernel_rfl)) (fun _ _ _ h => h) (Or.inl ⟨by rfl, ?_⟩) ?_ ?_
  rotate_left
  ·intro w'; go_simp
   with_reducible rfl
  rotate_left
  ·simp only [Act.put, List.setIfInBounds_toArray, List.set_cons_zero, List.set_cons_succ, i64_w, i32_w]; rfl
  refine pure_ (i := 4) (N := some 20) (v := ?_) (a' := ?_) #[true, false, false, false, true, false, false, false, false] rfl rfl (any_of HT_.out (by kernel_rfl)) (fun _ _ _ h => h) (Or.inl ⟨by rfl, ?_⟩) ?_ ?_
  rotate_left
  ·intro w'; go_simp
   with_reducible rfl
  rotate_left
  ·simp only [Act.put, List.setIfInBounds_toArray, List.set_cons_zero, List.set_cons_succ, i64_w, i32_w]; rfl
  refine inv_at [1, 2, 3, 5, 6, 7, 8] (fun a0_ b a w' => ∃ (b_ : Nat) (s6_ : Value) (s7_ : Value) (m3_ : Value) (m8_ : Value), a = putSel a0_ b [(1, 17, .int .i64 k), (2, 18, .int .u8 (k % 256)), (3, 19, m3_), (5, 21, .agg #[.int .i64 tc, .int .i64 ts]), (6, 22, s6_), (7, 23, s7_), (8, 5, m8_)] ∧ (Below wd.heap.size wd w') ∧ (b 3 = true → b 7 = false → Kd.R (Kd.int .u8) 5 w' wd.heap.size (fun _ => True) (.slice (some ⟨b_, 0, none⟩) 1 1) ([k % 256])) ∧ (b 6 = true → b 7 = false → Kd.R (Kd.int .u8) 5 w' wd.heap.size (fun _ => True) (s6_) (be8s [tc, ts])) ∧ (b 7 = true → Kd.R (Kd.int .u8) 5 w' wd.heap.size (fun _ => True) (s7_) ([k % 256] ++ be8s [tc, ts])) ∧ (b 3 = true → (m3_ : Value) = .slice (some ⟨b_, 0, none⟩) 1 1) ∧ (b 8 = true → (m8_ : Value) = s7_)) HT_.out HW_.out (by kernel_rfl) (by kernel_rfl) ?_ ?_ ?_
  ·exact ⟨0, .bool false, .bool false, .bool false, .bool false, by simp only [putSel, Bool.false_eq_true, if_false], below_drew HW.out, fun h_ => absurd h_ (by decide), fun h_ => absurd h_ (by decide), fun h_ => absurd h_ (by decide), fun h_ => absurd h_ (by decide), fun h_ => absurd h_ (by decide)⟩
  ·skip
   clear HW; refine steps_cons ?_ ?_
   ·rintro b a w' ⟨b_, s6_, s7_, m3_, m8_, ha, QHW, QH3, QH6, QH7, QX3_, QX8_⟩ hb_ hon hoff; refine ⟨_, rfl, fun K hK => ?_⟩; have e16 := ef ha 16 (.pointer (some ⟨w.heap.size, 0, none⟩)); replace ha := sd ha; have HW := sd QHW; have q0 := (cells_at HW.out (blk_cell HX.out 0)).trans (rfl : _ = some (Value.int .i64 k)); refine value_ (w1 := w') (v := .int .i64 k) (by rfl) rfl ?_ ?_
    ·go_simp; (try simp only [i64_w]); try rfl
    refine hK.out _ _ ⟨b_, s6_, s7_, m3_, m8_, uk ha.out 0 hb_ rfl rfl rfl, QHW, fun h0_ _ => aF hoff 3 h0_, QH6, fun h0_ => aF hoff 7 h0_, fun h0_ => aF hoff 3 h0_, fun h0_ => aF hoff 8 h0_⟩
   refine steps_cons ?_ ?_
   ·rintro b a w' ⟨b_, s6_, s7_, m3_, m8_, ha, QHW, QH3, QH6, QH7, QX3_, QX8_⟩ hb_ hon hoff; refine ⟨_, rfl, fun K hK => ?_⟩; have e17 := ek ha 0 1 17 (.int .i64 k) hon; replace ha := sd ha; have HW := sd QHW; refine value_ (w1 := w') (v := .int .u8 (k % 256)) (by rfl) rfl ?_ ?_
    ·go_simp; (try simp only [i64_w]); try rfl
    refine hK.out _ _ ⟨b_, s6_, s7_, m3_, m8_, uk ha.out 1 hb_ rfl rfl rfl, QHW, fun h0_ _ => aF hoff 3 h0_, QH6, fun h0_ => aF hoff 7 h0_, fun h0_ => aF hoff 3 h0_, fun h0_ => aF hoff 8 h0_⟩
   refine steps_cons ?_ ?_
   ·rintro b a w' ⟨b_, s6_, s7_, m3_, m8_, ha, QHW, QH3, QH6, QH7, QX3_, QX8_⟩ hb_ hon hoff; refine ⟨_, rfl, fun K hK => ?_⟩; have e18 := ek ha 1 2 18 (.int .u8 (k % 256)) hon; replace ha := sd ha; have HW := sd QHW; refine value_ (w1 := w'.alloc (.cells #[.int .u8 (k % 256)] 5)) (v := .slice (some ⟨w'.heap.size, 0, none⟩) 1 1) (by rfl) rfl (by go_simp) ?_; refine hK.out _ _ ⟨w'.heap.size, s6_, s7_, (.slice (some ⟨w'.heap.size, 0, none⟩) 1 1), m8_, uk ha.out 2 hb_ rfl rfl rfl, below_alloc HW.out _, fun _ _ => Kd.R_lower (own_oneR w' _) HW.out.size, fun h0_ h1_ => Kd.R_alloc (QH6 h0_ h1_) _, fun h0_ => aF hoff 7 h0_, fun _ => rfl, fun h0_ => aF hoff 8 h0_⟩
   refine steps_cons ?_ ?_
   ·rintro b a w' ⟨b_, s6_, s7_, m3_, m8_, ha, QHW, QH3, QH6, QH7, QX3_, QX8_⟩ hb_ hon hoff; refine ⟨_, rfl, fun K hK => ?_⟩; have e20 := ef ha 20 (.pointer (some ⟨w.heap.size, 1, none⟩)); replace ha := sd ha; have HW := sd QHW; have q1 := (cells_at HW.out (blk_cell HX.out 1)).trans (rfl : _ = some (Value.int .i64 tc)); have q2 := (cells_at HW.out (blk_cell HX.out 2)).trans (rfl : _ = some (Value.int .i64 ts)); refine value_ (w1 := w') (v := .agg #[.int .i64 tc, .int .i64 ts]) (by rfl) rfl ?_ ?_
    ·go_simp; (try simp only [i64_w]); try rfl
    refine hK.out _ _ ⟨b_, s6_, s7_, m3_, m8_, uk ha.out 3 hb_ rfl rfl rfl, QHW, QH3, fun h0_ _ => aF hoff 6 h0_, fun h0_ => aF hoff 7 h0_, QX3_, fun h0_ => aF hoff 8 h0_⟩
   refine steps_cons ?_ ?_
   ·rintro b a w' ⟨b_, s6_, s7_, m3_, m8_, ha, QHW, QH3, QH6, QH7, QX3_, QX8_⟩ hb_ hon hoff; refine ⟨_, rfl, fun K hK => ?_⟩; have e21 := ek ha 3 5 21 (.agg #[.int .i64 tc, .int .i64 ts]) hon; replace ha := sd ha; have HW := sd QHW; refine goes_ Tryd.func84 (by kernel_rfl) rfl #[.agg #[.int .i64 tc, .int .i64 ts]] (by rfl) rfl rfl (ev1 e21) ?_; refine (nid_calls tc ts w').mono ?_; rintro e w2 ⟨v2, rfl, hR, hB⟩; refine ⟨_, rfl, ?_⟩; refine hK.out _ _ ⟨b_, v2, s7_, m3_, m8_, uk ha.out 4 hb_ rfl rfl rfl, below_step HW.out hB, fun h0_ h1_ => Kd.R_below (QH3 h0_ h1_) hB, fun _ _ => Kd.R_lower hR HW.out.size, fun h0_ => aF hoff 7 h0_, QX3_, fun h0_ => aF hoff 8 h0_⟩
   refine steps_cons ?_ ?_
   ·rintro b a w' ⟨b_, s6_, s7_, m3_, m8_, ha, QHW, QH3, QH6, QH7, QX3_, QX8_⟩ hb_ hon hoff; refine ⟨_, rfl, fun K hK => ?_⟩; have e19 := ek ha 2 3 19 (m3_) hon; rw [QX3_ (aC hon 3)] at e19; have e22 := ek ha 4 6 22 (s6_) hon; replace ha := sd ha; have HW := sd QHW; have H3 := sd (QH3 (aC hon 3) hb_); have H6 := sd (QH6 (aC hon 6) hb_); obtain ⟨aR, cR, hs, hcR, hCR⟩ := Kd.R_reads H6.out; rw [hs] at e22; refine cat_step_at (Kd.int .u8) intKM wd w' wd.heap.size (by rfl) (.tmp 19) (.tmp 22) 22 5 (.int .u8 0) 1 rfl Tryd.underlying22 infoU8 rfl (by decide) (by omega) (.slice (some ⟨b_, 0, none⟩) 1 1) [k % 256] (be8s [tc, ts]) (aR) ((be8s [tc, ts]).length) (cR) (eval_of e19) (eval_of e22) H3.out hCR HW.out HW.out.size (by simp only [List.length_cons, List.length_nil, be8s_len]; omega) ?_; intro v1 w1 ho hb hg hat; refine hK.out _ _ ⟨b_, s6_, v1, m3_, m8_, uk ha.out 5 hb_ rfl rfl rfl, hb, fun _ h1_ => aU b 7 h1_, fun _ h1_ => aU b 7 h1_, fun _ => ho, QX3_, fun h0_ => aF hoff 8 h0_⟩
   refine steps_cons ?_ ?_
   ·rintro b a w' ⟨b_, s6_, s7_, m3_, m8_, ha, QHW, QH3, QH6, QH7, QX3_, QX8_⟩ hb_ hon hoff; refine ⟨_, rfl, fun K hK => ?_⟩; have e23 := ek ha 5 7 23 (s7_) hon; replace ha := sd ha; have HW := sd QHW; have H7 := sd (QH7 (aC hon 7)); refine value_ (w1 := w') (v := s7_) (by rfl) rfl ?_ ?_
    ·go_simp; (try simp only [i64_w]); try rfl
    refine hK.out _ _ ⟨b_, s6_, s7_, m3_, (s7_), uk ha.out 6 hb_ rfl rfl rfl, QHW, fun _ h1_ => aT hon 7 h1_, fun _ h1_ => aT hon 7 h1_, QH7, QX3_, fun _ => rfl⟩
   exact steps_nil
  ·rintro b a w' hall ⟨b_, s6_, s7_, m3_, m8_, ha, QHW, QH3, QH6, QH7, QX3_, QX8_⟩; clear HW; have hb1_ := hall 1 (by kernel_rfl); have hb2_ := hall 2 (by kernel_rfl); have hb3_ := hall 3 (by kernel_rfl); have hb5_ := hall 5 (by kernel_rfl); have hb6_ := hall 6 (by kernel_rfl); have hb7_ := hall 7 (by kernel_rfl); have hb8_ := hall 8 (by kernel_rfl); subst ha; obtain rfl := QX3_ hb3_; obtain rfl := QX8_ hb8_; simp only [putSel, hb1_, hb2_, hb3_, hb5_, hb6_, hb7_, hb8_, if_true, Act.put, List.setIfInBounds_toArray, List.set_cons_zero, List.set_cons_succ]; have HW := sd QHW; clear QHW; clear QH3; clear QH6; have H7 := sd (QH7 hb7_); clear QH7; clear hall hb1_ hb2_ hb3_ hb5_ hb6_ hb7_ hb8_; go_wp2; go_meet
   case rel => exact ⟨H7, HW⟩
 case rest =>
  obtain ⟨HO, HW1⟩ := hcut; clear HW; have HW := HW1; clear HW1; have hb0 : ([k % 256] ++ be8s [tc, ts]).length ≤ 20 := by simp [be8s_len]
  have HE : Hid (msgB ⟨k, tc, ts, ic, is, p, s⟩ = [k % 256] ++ be8s [tc, ts] ++ iB k ic is ++ pB k p ++ sB k s) := Lib.hid rfl; generalize [k % 256] ++ be8s [tc, ts] = b0 at HO hb0 HE; have hx1 := blk_below HX.out HW.out; have q3 := blk_cell hx1 3; have q4 := blk_cell hx1 4; have hlx := blk_lt hx1; clear hx1
  go_upto_if 26 with fail
  go_cut [5] (fun v wx => Aside0 (Kd.R (Kd.int .u8) 5 wx wd.heap.size (fun _ => True) v (b0 ++ iB k ic is)) ∧ Aside0 (Below wd.heap.size wd wx))
  case first =>
   cases bI
   case false =>
    have HQ := Lib.hid (show iB k ic is = [] by unfold iB; rw [HI.out]; rfl); go_wp2; go_meet
    case rel => exact ⟨⟨by rw [HQ.out, List.append_nil]; exact HO.out⟩, HW⟩
   case true =>
    have HQ := Lib.hid (show iB k ic is = be8s [ic, is] by unfold iB; rw [HI.out]; rfl); go_wp2_with (first | (go_at_call 84; refine (nid_calls ic is _).mono ?_; rintro e w3 ⟨v3, rfl, hR, hB⟩; obtain ⟨aT, cT, rfl, hcT, hCT⟩ := Kd.R_reads hR; have HCT := sd hCT; have HO3 := sd (Kd.R_below HO.out hB); have HW4 := sd (below_step HW.out hB); clear hR hB hCT hcT) | ((with_reducible refine gate_builtin (b := .append) (xs := #[.tmp 27, .tmp 30]) rfl ?_); at_builtin; refine Kd.R_append_row (Value.int .u8) (0 : Int) (h1 := fun _ => rfl) (w0 := wd) (wd.heap.size) rfl (.tmp 27) (.tmp 30) 22 5 (.int .u8 0) 1 rfl Tryd.underlying22 infoU8 rfl (by decide) (u5) (b0) (be8s [ic, is]) (aT) ((be8s [ic, is]).length) (cT) (fun _ => True) rfl rfl (fun _ _ => trivial) ?aO ?aR ?aB ?aS ?aL ?_; (case aO => exact HO3.out); (case aR => exact HCT.out); (case aB => exact HW4.out); (case aS => exact (below_size (by exact HW4.out))); (case aL => (simp only [be8s_len, List.length_cons, List.length_nil]; omega)); intro v1 w1 ho hb hg hat; have HO4 := sd ho; have HW5 := sd hb; clear ho hb hg hat)); go_meet
    case rel => exact ⟨⟨by rw [HQ.out]; exact HO4.out⟩, HW5⟩
  case rest =>
   obtain ⟨HOn, HWn⟩ := hcut; clear HO HW q3 q4 hlx
   have hb1 : (b0 ++ iB k ic is).length ≤ 36 := by
    have h1 := iB_le k ic is; rw [List.length_append]; omega
   generalize b0 ++ iB k ic is = c1 at HOn hb1 HE; have HO := HOn; have HW := HWn; clear HOn HWn; have hx1 := blk_below HX.out HW.out; have q5 := blk_cell hx1 5; have hlx := blk_lt hx1; clear hx1
   go_upto_if 34 with fail
   go_cut [5] (fun v wx => Aside0 (Kd.R (Kd.int .u8) 5 wx wd.heap.size (fun _ => True) v (c1 ++ pB k p)) ∧ Aside0 (Below wd.heap.size wd wx))
   case first =>
    cases bP
    case false =>
     have HQ := Lib.hid (show pB k p = [] by unfold pB; rw [HP.out]; rfl); go_wp2; go_meet
     case rel => exact ⟨⟨by rw [HQ.out, List.append_nil]; exact HO.out⟩, HW⟩
    case true =>
     have HQ := Lib.hid (show pB k p = [(p.length : Int) % 256] ++ p.flatMap cW by unfold pB; rw [HP.out]; rfl)
     go_upto_block 0 with (first | ((with_reducible refine gate_builtin (b := .append) (xs := #[.tmp 35, .tmp 40]) rfl ?_); at_builtin; refine Kd.R_append (Kd.int .u8) (w0 := wd) (wd.heap.size) rfl (.tmp 35) (.tmp 40) 22 5 (.int .u8 0) 1 rfl Tryd.underlying22 infoU8 rfl (by decide) (by omega) (u5) (c1) ((p.length : Int) % 256) [.int .u8 ((p.length : Int) % 256)] (fun _ => True) (fun _ => False) rfl rfl ?aP (fun _ hk => hk.elim) ?aF ?aO ?aB ?aS ?aL ?_; (case aP => exact rfl); (case aB => exact (by repeat (with_reducible first | exact HW.out | apply below_alloc | apply pw_below_drewN | apply below_drew1))); (case aF => exact (fun _ _ => trivial)); (case aO => exact (by (with_reducible repeat (first | apply Kd.R_alloc | apply Kd.R_drewN | apply Kd.R_drew)); exact HO.out)); (case aS => exact (below_size (by repeat (with_reducible first | exact HW.out | apply below_alloc | apply pw_below_drewN | apply below_drew1)))); (case aL => omega); intro v1 w1 ho hb hg hat; have HO1 := sd ho; have HW2 := sd hb; have hx2 := (blk_below HX.out hb); have r6 := blk_cell hx2 5; have hly := blk_lt hx2; clear ho hb hg hat hx2))
     have hP : (c1 ++ [(p.length : Int) % 256]).length ≤ 36 + 1 := by simp; omega
     obtain ⟨p1, hp1⟩ : ∃ q, c1 ++ [(p.length : Int) % 256] = q := ⟨_, rfl⟩; have HQ2 : Hid (c1 ++ pB k p = p1 ++ p.flatMap cW) := Lib.hid (by rw [HQ.out, ← List.append_assoc, hp1]); rw [hp1] at HO1 hP; clear hp1; go_wp2_with fail
     go_loopw [5, 45] (fun v i wr => ∃ j : Nat, j ≤ p.length ∧ i = .int .i64 (j : Int) ∧ Aside0 (Kd.R (Kd.int .u8) 5 wr wd.heap.size (fun _ => True) v (p1 ++ (p.take j).flatMap cW)) ∧ Aside0 (Below wd.heap.size wd wr)) (fun _ i _ => p.length - (intOf i).toNat)
     case atStart => exact ⟨0, Nat.zero_le _, rfl, ⟨by simpa using HO1.out⟩, HW2⟩
     case round =>
      obtain ⟨j, hj, rfl, HOj, HWr⟩ := hrel
      by_cases hlt : j < p.length
      ·obtain ⟨ad, x, rfl, hx, d0, d1, d2, d3, d4⟩ := at_Co (Kd.C_below HL.out.p (below_step HB.out HWr.out)) j hlt; obtain ⟨nm, kd, lo, hi, tx⟩ := x; obtain ⟨pr, hpr⟩ : ∃ pr, p1 ++ (p.take j).flatMap cW = pr := ⟨_, rfl⟩
       have hpl : pr.length ≤ 60000000 := by
        have h1 := flatMap_le cW 540 cW_le (p.take j); rw [List.length_take] at h1; rw [← hpr, List.length_append]; omega
       have hce := cW_le (nm, kd, lo, hi, tx); obtain ⟨ce, hce2⟩ : ∃ q, cW (nm, kd, lo, hi, tx) = q := ⟨_, rfl⟩; have HE2 : Hid (p1 ++ (p.take (j + 1)).flatMap cW = pr ++ ce) := Lib.hid (by rw [take_snocF cW hx, ← List.append_assoc, hpr, hce2]); rw [hpr] at HOj; rw [hce2] at hce; have HC2 := Lib.hid hce2; clear hpr hce2 hx; have HD := sd (Kd.R_alloc HOj.out (.cells #[.string nm, .int .i64 kd, .int .i64 lo, .int .i64 hi, .string tx] 44)); have HW0 := sd (below_alloc HWr.out (.cells #[.string nm, .int .i64 kd, .int .i64 lo, .int .i64 hi, .string tx] 44)); go_wp2_with (first | (go_at_call 85; refine (con_calls nm kd lo hi tx _).mono ?_; rintro e w3 ⟨v3, rfl, hR, hB⟩; rw [HC2.out] at hR; obtain ⟨aT, cT, rfl, hcT, hCT⟩ := Kd.R_reads hR; have HCT := sd hCT; have HO3 := sd (Kd.R_below HD.out hB); have HW4 := sd (below_step HW0.out hB); clear hR hB hCT hcT) | ((with_reducible refine gate_builtin (b := .append) (xs := #[.tmp 49, .tmp 51]) rfl ?_); at_builtin; refine Kd.R_append_row (Value.int .u8) (0 : Int) (h1 := fun _ => rfl) (w0 := wd) (wd.heap.size) rfl (.tmp 49) (.tmp 51) 22 5 (.int .u8 0) 1 rfl Tryd.underlying22 infoU8 rfl (by decide) (u5) (pr) (ce) (aT) (ce.length) (cT) (fun _ => True) rfl rfl (fun _ _ => trivial) ?aO ?aR ?aB ?aS ?aL ?_; (case aO => exact HO3.out); (case aR => exact HCT.out); (case aB => exact HW4.out); (case aS => exact (below_size (by exact HW4.out))); (case aL => omega); intro v1 w1 ho hb hg hat; have HO4 := sd ho; have HW5 := sd hb; clear ho hb hg hat))
       go_roundw
       case rel => exact ⟨j + 1, by omega, by go_num, ⟨by rw [HE2.out]; exact HO4.out⟩, HW5⟩
       case measure => simp [intOf]; omega
      ·obtain rfl : j = p.length := by omega
       go_wp2_with fail; go_meet
       case rel => exact ⟨⟨by have := HOj.out; rw [List.take_length] at this; rw [HQ2.out]; exact this⟩, HWr⟩
   case rest =>
    obtain ⟨HOn, HWn⟩ := hcut; clear HO HW
    have hbn : (c1 ++ pB k p).length ≤ 60000000 := by
     have h1 := pB_le k p; rw [List.length_append]; omega
    generalize c1 ++ pB k p = c2 at HOn hbn HE; clear q5 hlx hb1; have HO := HOn; have HW := HWn; clear HOn HWn; have hx1 := blk_below HX.out HW.out; have q6 := blk_cell hx1 6; have hlx := blk_lt hx1; clear hx1
    go_upto_if 56 with fail
    go_cut [5] (fun v wx => Aside0 (Kd.R (Kd.int .u8) 5 wx wd.heap.size (fun _ => True) v (c2 ++ sB k s)) ∧ Aside0 (Below wd.heap.size wd wx))
    case first =>
     cases bS
     case false =>
      have HQ := Lib.hid (show sB k s = [] by unfold sB; rw [HA.out]; rfl); go_wp2; go_meet
      case rel => exact ⟨⟨by rw [HQ.out, List.append_nil]; exact HO.out⟩, HW⟩
     case true =>
      have HQ := Lib.hid (show sB k s = [(s.length : Int) % 256] ++ s.flatMap aW by unfold sB; rw [HA.out]; rfl)
      go_upto_block 2 with (first | ((with_reducible refine gate_builtin (b := .append) (xs := #[.tmp 57, .tmp 62]) rfl ?_); at_builtin; refine Kd.R_append (Kd.int .u8) (w0 := wd) (wd.heap.size) rfl (.tmp 57) (.tmp 62) 22 5 (.int .u8 0) 1 rfl Tryd.underlying22 infoU8 rfl (by decide) (by omega) (u5) (c2) ((s.length : Int) % 256) [.int .u8 ((s.length : Int) % 256)] (fun _ => True) (fun _ => False) rfl rfl ?aP (fun _ hk => hk.elim) ?aF ?aO ?aB ?aS ?aL ?_; (case aP => exact rfl); (case aB => exact (by repeat (with_reducible first | exact HW.out | apply below_alloc | apply pw_below_drewN | apply below_drew1))); (case aF => exact (fun _ _ => trivial)); (case aO => exact (by (with_reducible repeat (first | apply Kd.R_alloc | apply Kd.R_drewN | apply Kd.R_drew)); exact HO.out)); (case aS => exact (below_size (by repeat (with_reducible first | exact HW.out | apply below_alloc | apply pw_below_drewN | apply below_drew1)))); (case aL => omega); intro v1 w1 ho hb hg hat; have HO1 := sd ho; have HW2 := sd hb; have hx2 := (blk_below HX.out hb); have r6 := blk_cell hx2 6; have hly := blk_lt hx2; clear ho hb hg hat hx2))
      have hP : (c2 ++ [(s.length : Int) % 256]).length ≤ 60000000 + 1 := by simp; omega
      obtain ⟨p1, hp1⟩ : ∃ q, c2 ++ [(s.length : Int) % 256] = q := ⟨_, rfl⟩; have HQ2 : Hid (c2 ++ sB k s = p1 ++ s.flatMap aW) := Lib.hid (by rw [HQ.out, ← List.append_assoc, hp1]); rw [hp1] at HO1 hP; clear hp1; go_wp2_with fail
      go_loopw [5, 67] (fun v i wr => ∃ j : Nat, j ≤ s.length ∧ i = .int .i64 (j : Int) ∧ Aside0 (Kd.R (Kd.int .u8) 5 wr wd.heap.size (fun _ => True) v (p1 ++ (s.take j).flatMap aW)) ∧ Aside0 (Below wd.heap.size wd wr)) (fun _ i _ => s.length - (intOf i).toNat)
      case atStart => exact ⟨0, Nat.zero_le _, rfl, ⟨by simpa using HO1.out⟩, HW2⟩
      case round =>
       obtain ⟨j, hj, rfl, HOj, HWr⟩ := hrel
       by_cases hlt : j < s.length
       ·obtain ⟨ad, x, rfl, hx, d0, d1, d2, d3⟩ := at_At (Kd.C_below HL.out.s (below_step HB.out HWr.out)) j hlt; obtain ⟨nm, it, n0, tx⟩ := x; obtain ⟨pr, hpr⟩ : ∃ pr, p1 ++ (s.take j).flatMap aW = pr := ⟨_, rfl⟩
        have hpl : pr.length ≤ 130000000 := by
         have h1 := flatMap_le aW 540 aW_le (s.take j); rw [List.length_take] at h1; rw [← hpr, List.length_append]; omega
        have hce := aW_le (nm, it, n0, tx); obtain ⟨ce, hce2⟩ : ∃ q, aW (nm, it, n0, tx) = q := ⟨_, rfl⟩; have HE2 : Hid (p1 ++ (s.take (j + 1)).flatMap aW = pr ++ ce) := Lib.hid (by rw [take_snocF aW hx, ← List.append_assoc, hpr, hce2]); rw [hpr] at HOj; rw [hce2] at hce; have HC2 := Lib.hid hce2; clear hpr hce2 hx; have HD := sd (Kd.R_alloc HOj.out (.cells #[.string nm, .bool it, .int .i64 n0, .string tx] 59)); have HW0 := sd (below_alloc HWr.out (.cells #[.string nm, .bool it, .int .i64 n0, .string tx] 59)); go_wp2_with (first | (go_at_call 86; refine (attr_calls nm it n0 tx _).mono ?_; rintro e w3 ⟨v3, rfl, hR, hB⟩; rw [HC2.out] at hR; obtain ⟨aT, cT, rfl, hcT, hCT⟩ := Kd.R_reads hR; have HCT := sd hCT; have HO3 := sd (Kd.R_below HD.out hB); have HW4 := sd (below_step HW0.out hB); clear hR hB hCT hcT) | ((with_reducible refine gate_builtin (b := .append) (xs := #[.tmp 71, .tmp 73]) rfl ?_); at_builtin; refine Kd.R_append_row (Value.int .u8) (0 : Int) (h1 := fun _ => rfl) (w0 := wd) (wd.heap.size) rfl (.tmp 71) (.tmp 73) 22 5 (.int .u8 0) 1 rfl Tryd.underlying22 infoU8 rfl (by decide) (u5) (pr) (ce) (aT) (ce.length) (cT) (fun _ => True) rfl rfl (fun _ _ => trivial) ?aO ?aR ?aB ?aS ?aL ?_; (case aO => exact HO3.out); (case aR => exact HCT.out); (case aB => exact HW4.out); (case aS => exact (below_size (by exact HW4.out))); (case aL => omega); intro v1 w1 ho hb hg hat; have HO4 := sd ho; have HW5 := sd hb; clear ho hb hg hat))
        go_roundw
        case rel => exact ⟨j + 1, by omega, by go_num, ⟨by rw [HE2.out]; exact HO4.out⟩, HW5⟩
        case measure => simp [intOf]; omega
       ·obtain rfl : j = s.length := by omega
        go_wp2_with fail; go_meet
        case rel => exact ⟨⟨by have := HOj.out; rw [List.take_length] at this; rw [HQ2.out]; exact this⟩, HWr⟩
    case rest =>
     obtain ⟨HOn, HWn⟩ := hcut; clear HO HW
     have hbn : (c2 ++ sB k s).length ≤ 130000000 := by
      have h1 := sB_le k s; rw [List.length_append]; omega
     go_wp2; go_ret; refine ⟨_, rfl, ?_, below_step HB.out HWn.out⟩; rw [HE.out]; exact Kd.R_lower HOn.out HB.out.size
set_option maxRecDepth 100000 in
set_option maxHeartbeats 4000000 in
theorem enc_right (m : MsgD) (A5 : Option Addr) (m5 : Nat) (A6 : Option Addr) (m6 : Nat) (w : World) (h : LiesM w m A5 A6) (hs : SmM m) (hr : rightM m = true) :
  Calls Tryd.prog 21 #[mW m A5 m5 A6 m6] w fun e w' => ∃ v, e = .returned (.tuple #[v, .nilIface]) ∧ Kd.R (Kd.int .u8) 5 w' w.heap.size (fun _ => True) v (msgB m) ∧ Below w.heap.size w w' := by
 have HP : Hid (m.p.length ≤ 5 ∧ m.s.length ≤ 5) := Lib.hid (by
  simp only [rightM, predOk, tupOk, Bool.and_eq_true, decide_eq_true_iff] at hr; omega)
 have HR := Lib.hid hr; have HL := sd h; have HS := sd hs; clear h hs hr; obtain ⟨k, tc, ts, ic, is, p, s⟩ := m; have HX := sd (blk_new w (.cells #[.int .i64 k, .int .i64 tc, .int .i64 ts, .int .i64 ic, .int .i64 is, .slice A5 p.length m5, .slice A6 s.length m6] 50)); have HB := sd (below_alloc (Below.refl w.heap.size w) (.cells #[.int .i64 k, .int .i64 tc, .int .i64 ts, .int .i64 ic, .int .i64 is, .slice A5 p.length m5, .slice A6 s.length m6] 50))
 go_enter Tryd.func21, Tryd.ntmps21
 go_wp2_with (first | (go_at_call 25; refine (right_calls ⟨k, tc, ts, ic, is, p, s⟩ _ _ _ _ _ (LiesM.below HL.out HB.out) HS.out).mono ?_; rintro e w1 ⟨he, hB⟩; rw [HR.out] at he; subst he; replace HX := sd (blk_below HX.out hB); have q0 := (blk_cell HX.out 0); have q1 := (blk_cell HX.out 1); have q2 := (blk_cell HX.out 2); have q3 := (blk_cell HX.out 3); have q4 := (blk_cell HX.out 4); have q5 := (blk_cell HX.out 5); have q6 := (blk_cell HX.out 6); have hl1 := blk_lt HX.out; replace HB := sd (below_step HB.out hB); clear hB) | (go_at_call 54; refine (wput_calls ⟨k, tc, ts, ic, is, p, s⟩ _ _ _ _ _ (LiesM.below HL.out HB.out) (Nat.le_trans HP.out.1 (by decide)) (Nat.le_trans HP.out.2 (by decide))).mono ?_; rintro e w2 ⟨v, rfl, hR, hB⟩; have HRR := sd (Kd.R_lower hR HB.out.size); replace HB := sd (below_step HB.out hB); clear hB hR)); go_ret2; exact ⟨v, rfl, HRR.out, HB.out⟩
end Go.Proofs.YtbplemhjhpfkgaaDoor.Wr

/-
 The reference's Bytes of a message of a right kind whose texts are short: the bytes that msgB says.
-/
import Derived.Test.YtbplemhjhpfkgaaDoorZRefNum
import Derived.Test.YtbplemhjhpfkgaaDoorZWirePut
namespace Go.Proofs.YtbplemhjhpfkgaaDoor.Wr
open Go.RowKit YtbplemhjhpfkgaaDoorW.PrintWords YtbplemhjhpfkgaaDoorW.PrintLast YtbplemhjhpfkgaaDoorW.PrintMore Rd
open Go.Proofs.YtbplemhjhpfkgaaDoor.Cd (Co At kCo kAt at_Co at_At C_blk64 text8_le flatMap_le take_snocF)
set_option linter.unusedVariables false
set_option linter.unusedSimpArgs false
theorem rnumber1_calls (n : Int) (w : World) :
  Calls Tryd.prog 76 #[.int .i64 n] w fun e w' => ∃ v, e = .returned v ∧ Kd.R (Kd.int .u8) 5 w' w.heap.size (fun _ => True) v (be8s [n]) ∧ Below w.heap.size w w' := by
 rw [show be8s [n] = be8 n by simp [be8s]]; exact rnumber_calls n w
structure ShM (m : MsgD) : Prop where
 p : ∀ x ∈ m.p, x.1.size ≤ 255 ∧ x.2.2.2.2.size ≤ 255
 s : ∀ x ∈ m.s, x.1.size ≤ 255 ∧ x.2.2.2.size ≤ 255
def rb1Reg.T1 : Bool × List (List Nat × List Nat) := (true, [([], []), ([0], [0]), ([1], [1]), ([2], [2]), ([], []), ([4], [4]), ([5], [5]), ([3, 6, 6], [3, 6]), ([7, 7, 0, 1, 2, 3, 4, 5, 6, 7], [7])])
def rb1Reg.B1 : List Nat := [0, 1, 3, 7, 0, 16, 48, 127, 255]
theorem rb1Reg.tab1 : rtab .any (opsOf Tryd.f43 1) = rb1Reg.T1 := by kernel_rfl
theorem rb1Reg.bits1 : waitsOk rb1Reg.T1.2 rb1Reg.B1 = true := by kernel_rfl
def rb9Reg.T9 : Bool × List (List Nat × List Nat) := (true, [([], []), ([], []), ([1], [1]), ([2], [2]), ([0, 3, 3], [0, 3]), ([], []), ([5], [5]), ([6], [6]), ([7], [7]), ([4, 8, 4], [4, 8]), ([9, 9, 0, 1, 2, 3, 4, 5, 6, 7, 8, 9], [0, 9])])
def rb9Reg.B9 : List Nat := [0, 0, 2, 6, 15, 0, 32, 96, 224, 511, 1023]
theorem rb9Reg.tab9 : rtab .any (opsOf Tryd.f43 9) = rb9Reg.T9 := by kernel_rfl
theorem rb9Reg.bits9 : waitsOk rb9Reg.T9.2 rb9Reg.B9 = true := by kernel_rfl
def rb11Reg.T11 : Bool × List (List Nat × List Nat) := (true, [([], []), ([], []), ([1], [1]), ([2], [2]), ([0, 3, 3], [0, 3]), ([], []), ([5], [5]), ([6, 4], [6]), ([4, 7, 7], [4, 7]), ([8, 8, 0, 1, 2, 3, 4, 5, 6, 7, 8], [0, 8])])
def rb11Reg.B11 : List Nat := [0, 0, 2, 6, 15, 0, 32, 127, 255, 511]
theorem rb11Reg.tab11 : rtab .any (opsOf Tryd.f43 11) = rb11Reg.T11 := by kernel_rfl
theorem rb11Reg.bits11 : waitsOk rb11Reg.T11.2 rb11Reg.B11 = true := by kernel_rfl
def rb21Reg.T21 : Bool × List (List Nat × List Nat) := (true, [([], []), ([], []), ([0, 1], [0, 1]), ([], []), ([3], [3]), ([4], [4]), ([5, 2], [5]), ([2, 6, 6], [2, 6]), ([7, 7, 0, 1, 2, 3, 4, 5, 6, 7], [0, 7])])
def rb21Reg.B21 : List Nat := [0, 0, 3, 0, 8, 24, 63, 127, 255]
theorem rb21Reg.tab21 : rtab .any (opsOf Tryd.f43 21) = rb21Reg.T21 := by kernel_rfl
theorem rb21Reg.bits21 : waitsOk rb21Reg.T21.2 rb21Reg.B21 = true := by kernel_rfl
def rb22Reg.T22 : Bool × List (List Nat × List Nat) := (true, [([], []), ([], []), ([0, 1], [0, 1]), ([], []), ([3], [3]), ([4], [4]), ([5, 2], [5]), ([2, 6, 6], [2, 6]), ([7, 7, 0, 1, 2, 3, 4, 5, 6, 7], [0, 7])])
def rb22Reg.B22 : List Nat := [0, 0, 3, 0, 8, 24, 63, 127, 255]
theorem rb22Reg.tab22 : rtab .any (opsOf Tryd.f43 22) = rb22Reg.T22 := by kernel_rfl
theorem rb22Reg.bits22 : waitsOk rb22Reg.T22.2 rb22Reg.B22 = true := by kernel_rfl
set_option maxRecDepth 100000 in
set_option maxHeartbeats 16000000 in
theorem rbytes_calls (m : MsgD) (A5 : Option Addr) (m5 : Nat) (A6 : Option Addr) (m6 : Nat) (w : World) (h : LiesM w m A5 A6) (hsh : ShM m) (hk : kindOk m.k = true) (hp : m.p.length ≤ 100000) (hs : m.s.length ≤ 100000) :
  Calls Tryd.prog 43 #[mW m A5 m5 A6 m6] w fun e w' => ∃ v, e = .returned v ∧ Kd.R (Kd.int .u8) 5 w' w.heap.size (fun _ => True) v (msgB m) ∧ Below w.heap.size w w' := by
 have HL := sd h; have HSH := sd hsh; clear h hsh; obtain ⟨k, tc, ts, ic, is, p, s⟩ := m; have hp' : p.length ≤ 100000 := hp; have hs' : s.length ≤ 100000 := hs; have hk' : 1 ≤ k ∧ k ≤ 5 := by simpa [kindOk] using hk
 clear hp hs hk; have HX := sd (blk_new w (.cells #[.int .i64 k, .int .i64 tc, .int .i64 ts, .int .i64 ic, .int .i64 is, .slice A5 p.length m5, .slice A6 s.length m6] 50)); have HB := sd (below_alloc (Below.refl w.heap.size w) (.cells #[.int .i64 k, .int .i64 tc, .int .i64 ts, .int .i64 ic, .int .i64 is, .slice A5 p.length m5, .slice A6 s.length m6] 50)); have HI : Hid (asksI k = decide (3 ≤ k)) := Lib.hid (by unfold asksI; exact decide_eq_decide.2 ⟨fun h => h.1, fun h => ⟨h, hk'.2⟩⟩); have HS : Hid (asksS k = (k == 5)) := Lib.hid (by unfold asksS; rw [Bool.eq_iff_iff]; simp); clear hk'
 go_enter Tryd.func43, Tryd.ntmps43
 go_upto_region 1 with fail
 generalize (w.alloc (.cells #[.int .i64 k, .int .i64 tc, .int .i64 ts, .int .i64 ic, .int .i64 is, .slice A5 p.length m5, .slice A6 s.length m6] 50)) = wd at *; have HW := sd (Below.refl wd.heap.size wd)
 go_cut [3] (fun v wx => Aside0 (Kd.R (Kd.int .u8) 5 wx wd.heap.size (fun _ => True) v ([k % 256] ++ be8s [tc, ts])) ∧ Aside0 (Below wd.heap.size wd wx))
 case first =>
  refine start_ (n := 9) (S := fun w' => True) (ds := []) #[false, false, false, false, false, false, false, false, false] (by kernel_rfl) rfl rfl trivial (fun hHeld => ?_); refine with_tabW rb1Reg.tab1 rb1Reg.bits1 (fun HT_ HW_ => ?_); refine pure_ (i := 0) (N := some 8) (v := ?_) (a' := ?_) #[true, false, false, false, false, false, false, false, false] rfl rfl (any_of HT_.out (by kernel_rfl)) (fun _ _ _ h => h) (Or.inl ⟨by rfl, ?_⟩) ?_ ?_
  rotate_left
  ·intro w'; go_simp
   with_reducible rfl
  rotate_left
  ·simp only [Act.put, List.setIfInBounds_toArray, List.set_cons_zero, List.set_cons_succ, i64_w, i32_w]; rfl
  refine pure_ (i := 4) (N := some 12) (v := ?_) (a' := ?_) #[true, false, false, false, true, false, false, false, false] rfl rfl (any_of HT_.out (by kernel_rfl)) (fun _ _ _ h => h) (Or.inl ⟨by rfl, ?_⟩) ?_ ?_
  rotate_left
  ·intro w'; go_simp
   with_reducible rfl
  rotate_left
  ·simp only [Act.put, List.setIfInBounds_toArray, List.set_cons_zero, List.set_cons_succ, i64_w, i32_w]; rfl
  refine inv_at [1, 2, 3, 5, 6, 7, 8] (fun a0_ b a w' => ∃ (b_ : Nat) (s6_ : Value) (s7_ : Value) (m3_ : Value) (m8_ : Value), a = putSel a0_ b [(1, 9, .int .i64 k), (2, 10, .int .u8 (k % 256)), (3, 11, m3_), (5, 13, .agg #[.int .i64 tc, .int .i64 ts]), (6, 14, s6_), (7, 15, s7_), (8, 3, m8_)] ∧ (Below wd.heap.size wd w') ∧ (b 3 = true → b 7 = false → Kd.R (Kd.int .u8) 5 w' wd.heap.size (fun _ => True) (.slice (some ⟨b_, 0, none⟩) 1 1) ([k % 256])) ∧ (b 6 = true → b 7 = false → Kd.R (Kd.int .u8) 5 w' wd.heap.size (fun _ => True) (s6_) (be8s [tc, ts])) ∧ (b 7 = true → Kd.R (Kd.int .u8) 5 w' wd.heap.size (fun _ => True) (s7_) ([k % 256] ++ be8s [tc, ts])) ∧ (b 3 = true → (m3_ : Value) = .slice (some ⟨b_, 0, none⟩) 1 1) ∧ (b 8 = true → (m8_ : Value) = s7_)) HT_.out HW_.out (by kernel_rfl) (by kernel_rfl) ?_ ?_ ?_
  ·exact ⟨0, .bool false, .bool false, .bool false, .bool false, by simp only [putSel, Bool.false_eq_true, if_false], below_drew HW.out, fun h_ => absurd h_ (by decide), fun h_ => absurd h_ (by decide), fun h_ => absurd h_ (by decide), fun h_ => absurd h_ (by decide), fun h_ => absurd h_ (by decide)⟩
  ·skip
   clear HW; refine steps_cons ?_ ?_
   ·rintro b a w' ⟨b_, s6_, s7_, m3_, m8_, ha, QHW, QH3, QH6, QH7, QX3_, QX8_⟩ hb_ hon hoff; refine ⟨_, rfl, fun K hK => ?_⟩; have e8 := ef ha 8 (.pointer (some ⟨w.heap.size, 0, none⟩)); replace ha := sd ha; have HW := sd QHW; have q0 := (cells_at HW.out (blk_cell HX.out 0)).trans (rfl : _ = some (Value.int .i64 k)); refine value_ (w1 := w') (v := .int .i64 k) (by rfl) rfl ?_ ?_
    ·go_simp; (try simp only [i64_w]); try rfl
    refine hK.out _ _ ⟨b_, s6_, s7_, m3_, m8_, uk ha.out 0 hb_ rfl rfl rfl, QHW, fun h0_ _ => aF hoff 3 h0_, QH6, fun h0_ => aF hoff 7 h0_, fun h0_ => aF hoff 3 h0_, fun h0_ => aF hoff 8 h0_⟩
   refine steps_cons ?_ ?_
   ·rintro b a w' ⟨b_, s6_, s7_, m3_, m8_, ha, QHW, QH3, QH6, QH7, QX3_, QX8_⟩ hb_ hon hoff; refine ⟨_, rfl, fun K hK => ?_⟩; have e9 := ek ha 0 1 9 (.int .i64 k) hon; replace ha := sd ha; have HW := sd QHW; refine value_ (w1 := w') (v := .int .u8 (k % 256)) (by rfl) rfl ?_ ?_
    ·go_simp; (try simp only [i64_w]); try rfl
    refine hK.out _ _ ⟨b_, s6_, s7_, m3_, m8_, uk ha.out 1 hb_ rfl rfl rfl, QHW, fun h0_ _ => aF hoff 3 h0_, QH6, fun h0_ => aF hoff 7 h0_, fun h0_ => aF hoff 3 h0_, fun h0_ => aF hoff 8 h0_⟩
   refine steps_cons ?_ ?_
   ·rintro b a w' ⟨b_, s6_, s7_, m3_, m8_, ha, QHW, QH3, QH6, QH7, QX3_, QX8_⟩ hb_ hon hoff; refine ⟨_, rfl, fun K hK => ?_⟩; have e10 := ek ha 1 2 10 (.int .u8 (k % 256)) hon; replace ha := sd ha; have HW := sd QHW; refine value_ (w1 := w'.alloc (.cells #[.int .u8 (k % 256)] 5)) (v := .slice (some ⟨w'.heap.size, 0, none⟩) 1 1) (by rfl) rfl (by go_simp) ?_; refine hK.out _ _ ⟨w'.heap.size, s6_, s7_, (.slice (some ⟨w'.heap.size, 0, none⟩) 1 1), m8_, uk ha.out 2 hb_ rfl rfl rfl, below_alloc HW.out _, fun _ _ => Kd.R_lower (own_oneR w' _) HW.out.size, fun h0_ h1_ => Kd.R_alloc (QH6 h0_ h1_) _, fun h0_ => aF hoff 7 h0_, fun _ => rfl, fun h0_ => aF hoff 8 h0_⟩
   refine steps_cons ?_ ?_
   ·rintro b a w' ⟨b_, s6_, s7_, m3_, m8_, ha, QHW, QH3, QH6, QH7, QX3_, QX8_⟩ hb_ hon hoff; refine ⟨_, rfl, fun K hK => ?_⟩; have e12 := ef ha 12 (.pointer (some ⟨w.heap.size, 1, none⟩)); replace ha := sd ha; have HW := sd QHW; have q1 := (cells_at HW.out (blk_cell HX.out 1)).trans (rfl : _ = some (Value.int .i64 tc)); have q2 := (cells_at HW.out (blk_cell HX.out 2)).trans (rfl : _ = some (Value.int .i64 ts)); refine value_ (w1 := w') (v := .agg #[.int .i64 tc, .int .i64 ts]) (by rfl) rfl ?_ ?_
    ·go_simp; (try simp only [i64_w]); try rfl
    refine hK.out _ _ ⟨b_, s6_, s7_, m3_, m8_, uk ha.out 3 hb_ rfl rfl rfl, QHW, QH3, fun h0_ _ => aF hoff 6 h0_, fun h0_ => aF hoff 7 h0_, QX3_, fun h0_ => aF hoff 8 h0_⟩
   refine steps_cons ?_ ?_
   ·rintro b a w' ⟨b_, s6_, s7_, m3_, m8_, ha, QHW, QH3, QH6, QH7, QX3_, QX8_⟩ hb_ hon hoff; refine ⟨_, rfl, fun K hK => ?_⟩; have e13 := ek ha 3 5 13 (.agg #[.int .i64 tc, .int .i64 ts]) hon; replace ha := sd ha; have HW := sd QHW; refine goes_ Tryd.func74 (by kernel_rfl) rfl #[.agg #[.int .i64 tc, .int .i64 ts]] (by rfl) rfl rfl (ev1 e13) ?_; refine (refid_calls tc ts w').mono ?_; rintro e w2 ⟨v2, rfl, hR, hB⟩; refine ⟨_, rfl, ?_⟩; refine hK.out _ _ ⟨b_, v2, s7_, m3_, m8_, uk ha.out 4 hb_ rfl rfl rfl, below_step HW.out hB, fun h0_ h1_ => Kd.R_below (QH3 h0_ h1_) hB, fun _ _ => Kd.R_lower hR HW.out.size, fun h0_ => aF hoff 7 h0_, QX3_, fun h0_ => aF hoff 8 h0_⟩
   refine steps_cons ?_ ?_
   ·rintro b a w' ⟨b_, s6_, s7_, m3_, m8_, ha, QHW, QH3, QH6, QH7, QX3_, QX8_⟩ hb_ hon hoff; refine ⟨_, rfl, fun K hK => ?_⟩; have e11 := ek ha 2 3 11 (m3_) hon; rw [QX3_ (aC hon 3)] at e11; have e14 := ek ha 4 6 14 (s6_) hon; replace ha := sd ha; have HW := sd QHW; have H3 := sd (QH3 (aC hon 3) hb_); have H6 := sd (QH6 (aC hon 6) hb_); obtain ⟨aR, cR, hs, hcR, hCR⟩ := Kd.R_reads H6.out; rw [hs] at e14; refine cat_step_at (Kd.int .u8) intKM wd w' wd.heap.size (by rfl) (.tmp 11) (.tmp 14) 22 5 (.int .u8 0) 1 rfl Tryd.underlying22 infoU8 rfl (by decide) (by omega) (.slice (some ⟨b_, 0, none⟩) 1 1) [k % 256] (be8s [tc, ts]) (aR) ((be8s [tc, ts]).length) (cR) (eval_of e11) (eval_of e14) H3.out hCR HW.out HW.out.size (by simp only [List.length_cons, List.length_nil, be8s_len]; omega) ?_; intro v1 w1 ho hb hg hat; refine hK.out _ _ ⟨b_, s6_, v1, m3_, m8_, uk ha.out 5 hb_ rfl rfl rfl, hb, fun _ h1_ => aU b 7 h1_, fun _ h1_ => aU b 7 h1_, fun _ => ho, QX3_, fun h0_ => aF hoff 8 h0_⟩
   refine steps_cons ?_ ?_
   ·rintro b a w' ⟨b_, s6_, s7_, m3_, m8_, ha, QHW, QH3, QH6, QH7, QX3_, QX8_⟩ hb_ hon hoff; refine ⟨_, rfl, fun K hK => ?_⟩; have e15 := ek ha 5 7 15 (s7_) hon; replace ha := sd ha; have HW := sd QHW; have H7 := sd (QH7 (aC hon 7)); refine value_ (w1 := w') (v := s7_) (by rfl) rfl ?_ ?_
    ·go_simp; (try simp only [i64_w]); try rfl
    refine hK.out _ _ ⟨b_, s6_, s7_, m3_, (s7_), uk ha.out 6 hb_ rfl rfl rfl, QHW, fun _ h1_ => aT hon 7 h1_, fun _ h1_ => aT hon 7 h1_, QH7, QX3_, fun _ => rfl⟩
   exact steps_nil
  ·rintro b a w' hall ⟨b_, s6_, s7_, m3_, m8_, ha, QHW, QH3, QH6, QH7, QX3_, QX8_⟩; clear HW; have hb1_ := hall 1 (by kernel_rfl); have hb2_ := hall 2 (by kernel_rfl); have hb3_ := hall 3 (by kernel_rfl); have hb5_ := hall 5 (by kernel_rfl); have hb6_ := hall 6 (by kernel_rfl); have hb7_ := hall 7 (by kernel_rfl); have hb8_ := hall 8 (by kernel_rfl); subst ha; obtain rfl := QX3_ hb3_; obtain rfl := QX8_ hb8_; simp only [putSel, hb1_, hb2_, hb3_, hb5_, hb6_, hb7_, hb8_, if_true, Act.put, List.setIfInBounds_toArray, List.set_cons_zero, List.set_cons_succ]; have HW := sd QHW; clear QHW; clear QH3; clear QH6; have H7 := sd (QH7 hb7_); clear QH7; clear hall hb1_ hb2_ hb3_ hb5_ hb6_ hb7_ hb8_; go_wp2; go_meet
   case rel => exact ⟨H7, HW⟩
 case rest =>
  obtain ⟨HO, HW1⟩ := hcut; clear HW; have HW := HW1; clear HW1; have hb0 : ([k % 256] ++ be8s [tc, ts]).length ≤ 20 := by simp [be8s_len]
  have HE : Hid (msgB ⟨k, tc, ts, ic, is, p, s⟩ = [k % 256] ++ be8s [tc, ts] ++ iB k ic is ++ pB k p ++ sB k s) := Lib.hid rfl; generalize [k % 256] ++ be8s [tc, ts] = b0 at HO hb0 HE; have hx1 := blk_below HX.out HW.out; have q0 := blk_cell hx1 0; have q3 := blk_cell hx1 3; have q4 := blk_cell hx1 4; have hlx := blk_lt hx1; clear hx1; obtain ⟨bI, hI⟩ : ∃ b, decide (3 ≤ k) = b := ⟨_, rfl⟩
  go_upto_if 18 with fail
  rw [hI] at HI; clear hI
  go_cut [3] (fun v wx => Aside0 (Kd.R (Kd.int .u8) 5 wx wd.heap.size (fun _ => True) v (b0 ++ iB k ic is)) ∧ Aside0 (Below wd.heap.size wd wx))
  case first =>
   cases bI
   case false =>
    have HQ := Lib.hid (show iB k ic is = [] by unfold iB; rw [HI.out]; rfl); go_wp2; go_meet
    case rel => exact ⟨⟨by rw [HQ.out, List.append_nil]; exact HO.out⟩, HW⟩
   case true =>
    have HQ := Lib.hid (show iB k ic is = be8s [ic, is] by unfold iB; rw [HI.out]; rfl); go_wp2_with (first | (go_at_call 74; refine (refid_calls ic is _).mono ?_; rintro e w3 ⟨v3, rfl, hR, hB⟩; obtain ⟨aT, cT, rfl, hcT, hCT⟩ := Kd.R_reads hR; have HCT := sd hCT; have HO3 := sd (Kd.R_below HO.out hB); have HW4 := sd (below_step HW.out hB); clear hR hB hCT hcT) | ((with_reducible refine gate_builtin (b := .append) (xs := #[.tmp 19, .tmp 22]) rfl ?_); at_builtin; refine Kd.R_append_row (Value.int .u8) (0 : Int) (h1 := fun _ => rfl) (w0 := wd) (wd.heap.size) rfl (.tmp 19) (.tmp 22) 22 5 (.int .u8 0) 1 rfl Tryd.underlying22 infoU8 rfl (by decide) (u3) (b0) (be8s [ic, is]) (aT) ((be8s [ic, is]).length) (cT) (fun _ => True) rfl rfl (fun _ _ => trivial) ?aO ?aR ?aB ?aS ?aL ?_; (case aO => exact HO3.out); (case aR => exact HCT.out); (case aB => exact HW4.out); (case aS => exact (below_size (by exact HW4.out))); (case aL => ((try simp only [be8s_len, List.length_append, List.length_cons, List.length_nil]); omega)); intro v1 w1 ho hb hg hat; have HO4 := sd ho; have HW5 := sd hb; clear ho hb hg hat)); go_meet
    case rel => exact ⟨⟨by rw [HQ.out]; exact HO4.out⟩, HW5⟩
  case rest =>
   obtain ⟨HOn, HWn⟩ := hcut; clear HO HW q0 q3 q4 hlx
   have hb1 : (b0 ++ iB k ic is).length ≤ 36 := by
    have h1 := iB_le k ic is; rw [List.length_append]; omega
   generalize b0 ++ iB k ic is = c1 at HOn hb1 HE; have HO := HOn; have HW := HWn; clear HOn HWn; have hx1 := blk_below HX.out HW.out; have q0 := blk_cell hx1 0; have q5 := blk_cell hx1 5; have hlx := blk_lt hx1; clear hx1
   go_upto_region 4 with fail
   go_cut [31] (fun v wx => v = .bool (asksP k) ∧ Aside0 (wx = wc))
   case first =>
    by_cases k1 : k = 1
    ·subst k1; go_wp2; go_meet
     case rel => exact ⟨rfl, ⟨rfl⟩⟩
    ·have n1 : (k == 1) = false := by simp [k1]
     by_cases k3 : k = 3
     ·subst k3; go_wp2; go_meet
      case rel => exact ⟨rfl, ⟨rfl⟩⟩
     ·have n3 : (k == 3) = false := by simp [k3]
      have HQ : Hid (asksP k = false) := Lib.hid (by simp [asksP, k1, k3]); clear k1 k3; go_wp2; go_meet
      case rel => exact ⟨by rw [HQ.out], ⟨rfl⟩⟩
   case rest =>
    obtain ⟨rfl, HWE⟩ := hcut; have hwe := HWE.out; clear HWE; subst hwe; obtain ⟨bP, hP⟩ : ∃ b, asksP k = b := ⟨_, rfl⟩; rw [hP]; have HP0 := Lib.hid hP; clear hP
    go_upto_if 31 with fail
    go_cut [3] (fun v wx => Aside0 (Kd.R (Kd.int .u8) 5 wx wd.heap.size (fun _ => True) v (c1 ++ pB k p)) ∧ Aside0 (Below wd.heap.size wd wx))
    case first =>
     cases bP
     case false =>
      have HQ := Lib.hid (show pB k p = [] by unfold pB; rw [HP0.out]; rfl); go_wp2; go_meet
      case rel => exact ⟨⟨by rw [HQ.out, List.append_nil]; exact HO.out⟩, HW⟩
     case true =>
      have HQ := Lib.hid (show pB k p = [(p.length : Int) % 256] ++ p.flatMap cW by unfold pB; rw [HP0.out]; rfl)
      go_upto_block 0 with (first | ((with_reducible refine gate_builtin (b := .append) (xs := #[.tmp 32, .tmp 37]) rfl ?_); at_builtin; refine Kd.R_append (Kd.int .u8) (w0 := wd) (wd.heap.size) rfl (.tmp 32) (.tmp 37) 22 5 (.int .u8 0) 1 rfl Tryd.underlying22 infoU8 rfl (by decide) (by omega) (u3) (c1) ((p.length : Int) % 256) [.int .u8 ((p.length : Int) % 256)] (fun _ => True) (fun _ => False) rfl rfl ?aP (fun _ hk => hk.elim) ?aF ?aO ?aB ?aS ?aL ?_; (case aP => exact rfl); (case aB => exact (by repeat (with_reducible first | exact HW.out | apply below_alloc | apply pw_below_drewN | apply below_drew1))); (case aF => exact (fun _ _ => trivial)); (case aO => exact (by (with_reducible repeat (first | apply Kd.R_alloc | apply Kd.R_drewN | apply Kd.R_drew)); exact HO.out)); (case aS => exact (below_size (by repeat (with_reducible first | exact HW.out | apply below_alloc | apply pw_below_drewN | apply below_drew1)))); (case aL => omega); intro v1 w1 ho hb hg hat; have HO1 := sd ho; have HW2 := sd hb; have hx2 := (blk_below HX.out hb); have r6 := blk_cell hx2 5; have hly := blk_lt hx2; clear ho hb hg hat hx2))
      have hP : (c1 ++ [(p.length : Int) % 256]).length ≤ 36 + 1 := by simp; omega
      obtain ⟨p1, hp1⟩ : ∃ q, c1 ++ [(p.length : Int) % 256] = q := ⟨_, rfl⟩; have HQ2 : Hid (c1 ++ pB k p = p1 ++ p.flatMap cW) := Lib.hid (by rw [HQ.out, ← List.append_assoc, hp1]); rw [hp1] at HO1 hP; clear hp1; go_wp2_with fail
      go_loopw [3, 42] (fun v i wr => ∃ j : Nat, j ≤ p.length ∧ i = .int .i64 (j : Int) ∧ Aside0 (Kd.R (Kd.int .u8) 5 wr wd.heap.size (fun _ => True) v (p1 ++ (p.take j).flatMap cW)) ∧ Aside0 (Below wd.heap.size wd wr)) (fun _ i _ => p.length - (intOf i).toNat)
      case atStart => exact ⟨0, Nat.zero_le _, rfl, ⟨by simpa using HO1.out⟩, HW2⟩
      case round =>
       obtain ⟨j, hj, rfl, HOj, HWr⟩ := hrel
       by_cases hlt : j < p.length
       ·obtain ⟨ad, x, rfl, hx, d0, d1, d2, d3, d4⟩ := at_Co (Kd.C_below HL.out.p (below_step HB.out HWr.out)) j hlt; have HSx := HSH.out.p x (List.mem_of_getElem? hx); obtain ⟨nm, kd, lo, hi, tx⟩ := x; have HTN : Hid (nm.size ≤ 255) := Lib.hid HSx.1; have HTX : Hid (tx.size ≤ 255) := Lib.hid HSx.2; clear HSx; obtain ⟨pr0, hpr⟩ : ∃ pr, p1 ++ (p.take j).flatMap cW = pr := ⟨_, rfl⟩
        have hpl : pr0.length ≤ 60000000 := by
         have h1 := flatMap_le cW 540 cW_le (p.take j); rw [List.length_take] at h1; rw [← hpr, List.length_append]; omega
        have htn := text8_le nm; have htt := text8_le tx; have HE2 : Hid (p1 ++ (p.take (j + 1)).flatMap cW = pr0 ++ text8 nm ++ [kd % 256] ++ (if kd = 1 then be8s [lo, hi] else text8 tx)) := Lib.hid (by rw [take_snocF cW hx, ← List.append_assoc, hpr]; simp only [cW, List.append_assoc]); rw [hpr] at HOj; clear hpr hx; have HD := sd (Kd.R_alloc HOj.out (.cells #[.string nm, .int .i64 kd, .int .i64 lo, .int .i64 hi, .string tx] 44)); have HW0 := sd (below_alloc HWr.out (.cells #[.string nm, .int .i64 kd, .int .i64 lo, .int .i64 hi, .string tx] 44)); have HP := sd (blk_new wr (.cells #[.string nm, .int .i64 kd, .int .i64 lo, .int .i64 hi, .string tx] 44))
        go_upto_region 9 with fail
        clear d0 d1 d2 d3 d4; generalize wr.alloc (.cells #[.string nm, .int .i64 kd, .int .i64 lo, .int .i64 hi, .string tx] 44) = wb at *; clear HOj HWr HW; have HW := HW0; clear HW0
        go_cut [3] from 46 to 55 (fun v wx => Aside0 (Kd.R (Kd.int .u8) 5 wx wd.heap.size (fun _ => True) v (pr0 ++ text8 nm ++ [kd % 256])) ∧ Aside0 (wx.heap[wr.heap.size]? = some (.cells #[.string nm, .int .i64 kd, .int .i64 lo, .int .i64 hi, .string tx] 44 (0, 0))) ∧ Aside0 (Below wd.heap.size wd wx))
        case first =>
         refine start_ (n := 11) (S := fun w' => True) (ds := []) #[false, false, false, false, false, false, false, false, false, false, false] (by kernel_rfl) rfl rfl trivial (fun hHeld => ?_); refine with_tabW rb9Reg.tab9 rb9Reg.bits9 (fun HT_ HW_ => ?_); refine pure_ (i := 0) (N := some 46) (v := ?_) (a' := ?_) #[true, false, false, false, false, false, false, false, false, false, false] rfl rfl (any_of HT_.out (by kernel_rfl)) (fun _ _ _ h => h) (Or.inl ⟨by rfl, ?_⟩) ?_ ?_
         rotate_left
         ·intro w'; go_simp
          with_reducible rfl
         rotate_left
         ·simp only [Act.put, List.setIfInBounds_toArray, List.set_cons_zero, List.set_cons_succ, i64_w, i32_w]; rfl
         refine pure_ (i := 1) (N := some 47) (v := ?_) (a' := ?_) #[true, true, false, false, false, false, false, false, false, false, false] rfl rfl (any_of HT_.out (by kernel_rfl)) (fun _ _ _ h => h) (Or.inl ⟨by rfl, ?_⟩) ?_ ?_
         rotate_left
         ·intro w'; go_simp
          with_reducible rfl
         rotate_left
         ·simp only [Act.put, List.setIfInBounds_toArray, List.set_cons_zero, List.set_cons_succ, i64_w, i32_w]; rfl
         refine pure_ (i := 5) (N := some 51) (v := ?_) (a' := ?_) #[true, true, false, false, false, true, false, false, false, false, false] rfl rfl (any_of HT_.out (by kernel_rfl)) (fun _ _ _ h => h) (Or.inl ⟨by rfl, ?_⟩) ?_ ?_
         rotate_left
         ·intro w'; go_simp
          with_reducible rfl
         rotate_left
         ·simp only [Act.put, List.setIfInBounds_toArray, List.set_cons_zero, List.set_cons_succ, i64_w, i32_w]; rfl
         refine inv_at [2, 3, 4, 6, 7, 8, 9, 10] (fun a0_ b a w' => ∃ (s3_ : Value) (s4_ : Value) (b8_ : Nat) (s9_ : Value) (m8_ : Value) (m10_ : Value), a = putSel a0_ b [(2, 48, .string nm), (3, 49, s3_), (4, 50, s4_), (6, 52, .int .i64 kd), (7, 53, .int .u8 (kd % 256)), (8, 54, m8_), (9, 55, s9_), (10, 3, m10_)] ∧ (Below wd.heap.size wd w') ∧ (w'.heap[wr.heap.size]? = some (.cells #[.string nm, .int .i64 kd, .int .i64 lo, .int .i64 hi, .string tx] 44 (0, 0))) ∧ (b 4 = false → Kd.R (Kd.int .u8) 5 w' wd.heap.size (fun _ => True) (u3) (pr0)) ∧ (b 3 = true → b 4 = false → Kd.R (Kd.int .u8) 5 w' wd.heap.size (fun _ => True) (s3_) (text8 nm)) ∧ (b 4 = true → b 9 = false → Kd.R (Kd.int .u8) 5 w' wd.heap.size (fun _ => True) (s4_) (pr0 ++ text8 nm)) ∧ (b 8 = true → b 9 = false → Kd.R (Kd.int .u8) 5 w' wd.heap.size (fun _ => True) (.slice (some ⟨b8_, 0, none⟩) 1 1) ([kd % 256])) ∧ (b 9 = true → Kd.R (Kd.int .u8) 5 w' wd.heap.size (fun _ => True) (s9_) (pr0 ++ text8 nm ++ [kd % 256])) ∧ (b 8 = true → b 4 = false → Far (u3) (.slice (some ⟨b8_, 0, none⟩) 1 1)) ∧ (b 8 = true → (m8_ : Value) = .slice (some ⟨b8_, 0, none⟩) 1 1) ∧ (b 10 = true → (m10_ : Value) = s9_)) HT_.out HW_.out (by kernel_rfl) (by kernel_rfl) ?_ ?_ ?_
         ·exact ⟨.bool false, .bool false, 0, .bool false, .bool false, .bool false, by simp only [putSel, Bool.false_eq_true, if_false], below_drew HW.out, HP.out, fun _ => HD.out, fun h_ => absurd h_ (by decide), fun h_ => absurd h_ (by decide), fun h_ => absurd h_ (by decide), fun h_ => absurd h_ (by decide), fun h_ => absurd h_ (by decide), fun h_ => absurd h_ (by decide), fun h_ => absurd h_ (by decide)⟩
         ·skip
          clear HD HP HW; refine steps_cons ?_ ?_
          ·rintro b a w' ⟨s3_, s4_, b8_, s9_, m8_, m10_, ha, QHW, QHP, QHD, QHM0, QHA0, QHM1, QHA1, QP0_1, QX8_, QX10_⟩ hb_ hon hoff; refine ⟨_, rfl, fun K hK => ?_⟩; have e47 := ef ha 47 (.pointer (some ⟨wr.heap.size, 0, none⟩)); replace ha := sd ha; have HW := sd QHW; have HP := sd QHP; have HD := sd (QHD (aC hoff 4)); have q0 := (blk_cell HP.out 0).trans (rfl : _ = some (Value.string nm)); refine value_ (w1 := w') (v := .string nm) (by rfl) rfl ?_ ?_
           ·go_simp; (try simp only [i64_w]); try rfl
           refine hK.out _ _ ⟨s3_, s4_, b8_, s9_, m8_, m10_, uk ha.out 0 hb_ rfl rfl rfl, QHW, QHP, QHD, fun h0_ _ => aF hoff 3 h0_, fun h0_ _ => aF hoff 4 h0_, QHM1, fun h0_ => aF hoff 9 h0_, QP0_1, QX8_, fun h0_ => aF hoff 10 h0_⟩
          refine steps_cons ?_ ?_
          ·rintro b a w' ⟨s3_, s4_, b8_, s9_, m8_, m10_, ha, QHW, QHP, QHD, QHM0, QHA0, QHM1, QHA1, QP0_1, QX8_, QX10_⟩ hb_ hon hoff; refine ⟨_, rfl, fun K hK => ?_⟩; have e48 := ek ha 0 2 48 (.string nm) hon; replace ha := sd ha; have HW := sd QHW; have HP := sd QHP; have HD := sd (QHD (aC hoff 4)); refine goes_ Tryd.func75 (by kernel_rfl) rfl #[.string nm] (by rfl) rfl rfl (ev1 e48) ?_; refine (rtext_calls nm HTN.out w').mono ?_; rintro e w2 ⟨v2, rfl, hR, hB⟩; refine ⟨_, rfl, ?_⟩; refine hK.out _ _ ⟨v2, s4_, b8_, s9_, m8_, m10_, uk ha.out 1 hb_ rfl rfl rfl, below_step HW.out hB, blk_below HP.out hB, fun _ => Kd.R_below HD.out hB, fun _ _ => Kd.R_lower hR HW.out.size, fun h0_ _ => aF hoff 4 h0_, fun h0_ h1_ => Kd.R_below (QHM1 h0_ h1_) hB, fun h0_ => aF hoff 9 h0_, QP0_1, QX8_, fun h0_ => aF hoff 10 h0_⟩
          refine steps_cons ?_ ?_
          ·rintro b a w' ⟨s3_, s4_, b8_, s9_, m8_, m10_, ha, QHW, QHP, QHD, QHM0, QHA0, QHM1, QHA1, QP0_1, QX8_, QX10_⟩ hb_ hon hoff; refine ⟨_, rfl, fun K hK => ?_⟩; have e46 := ef ha 46 (u3); have e49 := ek ha 1 3 49 (s3_) hon; replace ha := sd ha; have HW := sd QHW; have HP := sd QHP; have HD := sd (QHD hb_); have HM0 := sd (QHM0 (aC hon 3) hb_); obtain ⟨aR, cR, hs, hcR, hCR⟩ := Kd.R_reads HM0.out; rw [hs] at e49; refine cat_step_at (Kd.int .u8) intKM wd w' wd.heap.size (by rfl) (.tmp 46) (.tmp 49) 22 5 (.int .u8 0) 1 rfl Tryd.underlying22 infoU8 rfl (by decide) (by omega) (u3) (pr0) (text8 nm) (aR) ((text8 nm).length) (cR) (eval_of e46) (eval_of e49) (HD.out) (hCR) HW.out HW.out.size (by first | omega | (simp only [List.length_append, List.length_cons, List.length_nil, be8s_len]; omega)) ?_; intro v1 w1 ho hb hg hat; refine hK.out _ _ ⟨s3_, v1, b8_, s9_, m8_, m10_, uk ha.out 2 hb_ rfl rfl rfl, hb, blk_grown HP.out hg (Kd.R_ne HD.out HP.out (by decide)), fun h0_ => aU b 4 h0_, fun _ h1_ => aU b 4 h1_, fun _ _ => ho, fun h0_ h1_ => Kd.R_grown2 (QHM1 h0_ h1_) rfl hg (QP0_1 h0_ hb_), fun h0_ => aF hoff 9 h0_, fun _ h1_ => aU b 4 h1_, QX8_, fun h0_ => aF hoff 10 h0_⟩
          refine steps_cons ?_ ?_
          ·rintro b a w' ⟨s3_, s4_, b8_, s9_, m8_, m10_, ha, QHW, QHP, QHD, QHM0, QHA0, QHM1, QHA1, QP0_1, QX8_, QX10_⟩ hb_ hon hoff; refine ⟨_, rfl, fun K hK => ?_⟩; have e51 := ef ha 51 (.pointer (some ⟨wr.heap.size, 1, none⟩)); replace ha := sd ha; have HW := sd QHW; have HP := sd QHP; have q0 := (blk_cell HP.out 1).trans (rfl : _ = some (Value.int .i64 kd)); refine value_ (w1 := w') (v := .int .i64 kd) (by rfl) rfl ?_ ?_
           ·go_simp; (try simp only [i64_w]); try rfl
           refine hK.out _ _ ⟨s3_, s4_, b8_, s9_, m8_, m10_, uk ha.out 3 hb_ rfl rfl rfl, QHW, QHP, QHD, QHM0, QHA0, fun h0_ _ => aF hoff 8 h0_, fun h0_ => aF hoff 9 h0_, fun h0_ _ => aF hoff 8 h0_, fun h0_ => aF hoff 8 h0_, fun h0_ => aF hoff 10 h0_⟩
          refine steps_cons ?_ ?_
          ·rintro b a w' ⟨s3_, s4_, b8_, s9_, m8_, m10_, ha, QHW, QHP, QHD, QHM0, QHA0, QHM1, QHA1, QP0_1, QX8_, QX10_⟩ hb_ hon hoff; refine ⟨_, rfl, fun K hK => ?_⟩; have e52 := ek ha 3 6 52 (.int .i64 kd) hon; replace ha := sd ha; have HW := sd QHW; have HP := sd QHP; refine value_ (w1 := w') (v := .int .u8 (kd % 256)) (by rfl) rfl ?_ ?_
           ·go_simp; (try simp only [i64_w]); try rfl
           refine hK.out _ _ ⟨s3_, s4_, b8_, s9_, m8_, m10_, uk ha.out 4 hb_ rfl rfl rfl, QHW, QHP, QHD, QHM0, QHA0, fun h0_ _ => aF hoff 8 h0_, fun h0_ => aF hoff 9 h0_, fun h0_ _ => aF hoff 8 h0_, fun h0_ => aF hoff 8 h0_, fun h0_ => aF hoff 10 h0_⟩
          refine steps_cons ?_ ?_
          ·rintro b a w' ⟨s3_, s4_, b8_, s9_, m8_, m10_, ha, QHW, QHP, QHD, QHM0, QHA0, QHM1, QHA1, QP0_1, QX8_, QX10_⟩ hb_ hon hoff; refine ⟨_, rfl, fun K hK => ?_⟩; have e53 := ek ha 4 7 53 (.int .u8 (kd % 256)) hon; replace ha := sd ha; have HW := sd QHW; have HP := sd QHP; refine value_ (w1 := w'.alloc (.cells #[.int .u8 (kd % 256)] 5)) (v := .slice (some ⟨w'.heap.size, 0, none⟩) 1 1) (by rfl) rfl (by go_simp) ?_; refine hK.out _ _ ⟨s3_, s4_, w'.heap.size, s9_, (.slice (some ⟨w'.heap.size, 0, none⟩) 1 1), m10_, uk ha.out 5 hb_ rfl rfl rfl, below_alloc HW.out _, blk_alloc HP.out _, fun h0_ => Kd.R_alloc (QHD h0_) _, fun h0_ h1_ => Kd.R_alloc (QHM0 h0_ h1_) _, fun h0_ h1_ => Kd.R_alloc (QHA0 h0_ h1_) _, fun _ _ => Kd.R_lower (own_oneR w' _) HW.out.size, fun h0_ => aF hoff 9 h0_, fun _ _ => far_new (Kd.R_lt (QHD (by assumption))) (fun k hk => Nat.le_of_eq (Option.some.inj hk)), fun _ => rfl, fun h0_ => aF hoff 10 h0_⟩
          refine steps_cons ?_ ?_
          ·rintro b a w' ⟨s3_, s4_, b8_, s9_, m8_, m10_, ha, QHW, QHP, QHD, QHM0, QHA0, QHM1, QHA1, QP0_1, QX8_, QX10_⟩ hb_ hon hoff; refine ⟨_, rfl, fun K hK => ?_⟩; have e50 := ek ha 2 4 50 (s4_) hon; have e54 := ek ha 5 8 54 (m8_) hon; rw [QX8_ (aC hon 8)] at e54; replace ha := sd ha; have HW := sd QHW; have HP := sd QHP; have HA0 := sd (QHA0 (aC hon 4) hb_); have HM1 := sd (QHM1 (aC hon 8) hb_); obtain ⟨aR, cR, hs, hcR, hCR⟩ := Kd.R_reads HM1.out; rw [hs] at e54; refine cat_step_at (Kd.int .u8) intKM wd w' wd.heap.size (by rfl) (.tmp 50) (.tmp 54) 22 5 (.int .u8 0) 1 rfl Tryd.underlying22 infoU8 rfl (by decide) (by omega) (s4_) (pr0 ++ text8 nm) ([kd % 256]) (aR) (([kd % 256]).length) (cR) (eval_of e50) (eval_of e54) (HA0.out) (hCR) HW.out HW.out.size (by first | omega | (simp only [List.length_append, List.length_cons, List.length_nil, be8s_len]; omega)) ?_; intro v1 w1 ho hb hg hat; refine hK.out _ _ ⟨s3_, s4_, b8_, v1, m8_, m10_, uk ha.out 6 hb_ rfl rfl rfl, hb, blk_grown HP.out hg (Kd.R_ne HA0.out HP.out (by decide)), fun h0_ => aT hon 4 h0_, fun _ h1_ => aT hon 4 h1_, fun _ h1_ => aU b 9 h1_, fun _ h1_ => aU b 9 h1_, fun _ => ho, fun _ h1_ => aT hon 4 h1_, QX8_, fun h0_ => aF hoff 10 h0_⟩
          refine steps_cons ?_ ?_
          ·rintro b a w' ⟨s3_, s4_, b8_, s9_, m8_, m10_, ha, QHW, QHP, QHD, QHM0, QHA0, QHM1, QHA1, QP0_1, QX8_, QX10_⟩ hb_ hon hoff; refine ⟨_, rfl, fun K hK => ?_⟩; have e55 := ek ha 6 9 55 (s9_) hon; replace ha := sd ha; have HW := sd QHW; have HP := sd QHP; have HA1 := sd (QHA1 (aC hon 9)); refine value_ (w1 := w') (v := s9_) (by rfl) rfl ?_ ?_
           ·go_simp; (try simp only [i64_w]); try rfl
           refine hK.out _ _ ⟨s3_, s4_, b8_, s9_, m8_, (s9_), uk ha.out 7 hb_ rfl rfl rfl, QHW, QHP, fun h0_ => aT hon 4 h0_, fun _ h1_ => aT hon 4 h1_, fun _ h1_ => aT hon 9 h1_, fun _ h1_ => aT hon 9 h1_, QHA1, fun _ h1_ => aT hon 4 h1_, QX8_, fun _ => rfl⟩
          exact steps_nil
         ·rintro b a w' hall ⟨s3_, s4_, b8_, s9_, m8_, m10_, ha, QHW, QHP, QHD, QHM0, QHA0, QHM1, QHA1, QP0_1, QX8_, QX10_⟩; clear HD HP HW; have hb2_ := hall 2 (by kernel_rfl); have hb3_ := hall 3 (by kernel_rfl); have hb4_ := hall 4 (by kernel_rfl); have hb6_ := hall 6 (by kernel_rfl); have hb7_ := hall 7 (by kernel_rfl); have hb8_ := hall 8 (by kernel_rfl); have hb9_ := hall 9 (by kernel_rfl); have hb10_ := hall 10 (by kernel_rfl); subst ha; obtain rfl := QX8_ hb8_; obtain rfl := QX10_ hb10_; simp only [putSel, hb2_, hb3_, hb4_, hb6_, hb7_, hb8_, hb9_, hb10_, if_true, Act.put, List.setIfInBounds_toArray, List.set_cons_zero, List.set_cons_succ]; have HW := sd QHW; clear QHW; have HP := sd QHP; clear QHP; clear QHD; clear QHM0; clear QHA0; clear QHM1; have HA1 := sd (QHA1 hb9_); clear QHA1; clear QP0_1; clear hall hb2_ hb3_ hb4_ hb6_ hb7_ hb8_ hb9_ hb10_; go_wp2; go_meet
          case rel => exact ⟨HA1, HP, HW⟩
        case rest =>
         obtain ⟨HD1, HP1, HW1⟩ := hcut; clear HD HP HW; have HD := HD1; have HP := HP1; have HW := HW1; clear HD1 HP1 HW1; obtain ⟨pr, hpr⟩ : ∃ q, pr0 ++ text8 nm ++ [kd % 256] = q := ⟨_, rfl⟩
         have hpl2 : pr.length ≤ 60000300 := by
          rw [← hpr]; simp only [List.length_append, List.length_cons, List.length_nil]; omega
         rw [hpr] at HD HE2; clear hpr hpl; have q1 := blk_cell HP.out 1; have hlp := blk_lt HP.out
         by_cases k1 : kd = 1
         ·subst k1; have HE3 : Hid (p1 ++ (p.take (j + 1)).flatMap cW = pr ++ be8s [lo] ++ be8s [hi]) := Lib.hid (by rw [HE2.out, if_pos rfl, List.append_assoc]; rfl)
          go_upto_region 11 with fail
          clear q1; refine start_ (n := 10) (S := fun w' => True) (ds := []) #[false, false, false, false, false, false, false, false, false, false] (by kernel_rfl) rfl rfl trivial (fun hHeld => ?_); refine with_tabW rb11Reg.tab11 rb11Reg.bits11 (fun HT_ HW_ => ?_); refine pure_ (i := 0) (N := some 59) (v := ?_) (a' := ?_) #[true, false, false, false, false, false, false, false, false, false] rfl rfl (any_of HT_.out (by kernel_rfl)) (fun _ _ _ h => h) (Or.inl ⟨by rfl, ?_⟩) ?_ ?_
          rotate_left
          ·intro w'; go_simp
           with_reducible rfl
          rotate_left
          ·simp only [Act.put, List.setIfInBounds_toArray, List.set_cons_zero, List.set_cons_succ, i64_w, i32_w]; rfl
          refine pure_ (i := 1) (N := some 60) (v := ?_) (a' := ?_) #[true, true, false, false, false, false, false, false, false, false] rfl rfl (any_of HT_.out (by kernel_rfl)) (fun _ _ _ h => h) (Or.inl ⟨by rfl, ?_⟩) ?_ ?_
          rotate_left
          ·intro w'; go_simp
           with_reducible rfl
          rotate_left
          ·simp only [Act.put, List.setIfInBounds_toArray, List.set_cons_zero, List.set_cons_succ, i64_w, i32_w]; rfl
          refine pure_ (i := 5) (N := some 64) (v := ?_) (a' := ?_) #[true, true, false, false, false, true, false, false, false, false] rfl rfl (any_of HT_.out (by kernel_rfl)) (fun _ _ _ h => h) (Or.inl ⟨by rfl, ?_⟩) ?_ ?_
          rotate_left
          ·intro w'; go_simp
           with_reducible rfl
          rotate_left
          ·simp only [Act.put, List.setIfInBounds_toArray, List.set_cons_zero, List.set_cons_succ, i64_w, i32_w]; rfl
          refine inv_at [2, 3, 4, 6, 7, 8, 9] (fun a0_ b a w' => ∃ (s3_ : Value) (s4_ : Value) (s7_ : Value) (s8_ : Value) (m9_ : Value), a = putSel a0_ b [(2, 61, .int .i64 lo), (3, 62, s3_), (4, 63, s4_), (6, 65, .int .i64 hi), (7, 66, s7_), (8, 67, s8_), (9, 3, m9_)] ∧ (Below wd.heap.size wd w') ∧ (w'.heap[wr.heap.size]? = some (.cells #[.string nm, .int .i64 1, .int .i64 lo, .int .i64 hi, .string tx] 44 (0, 0))) ∧ (b 4 = false → Kd.R (Kd.int .u8) 5 w' wd.heap.size (fun _ => True) (u3) (pr)) ∧ (b 3 = true → b 4 = false → Kd.R (Kd.int .u8) 5 w' wd.heap.size (fun _ => True) (s3_) (be8s [lo])) ∧ (b 4 = true → b 8 = false → Kd.R (Kd.int .u8) 5 w' wd.heap.size (fun _ => True) (s4_) (pr ++ be8s [lo])) ∧ (b 7 = true → b 8 = false → Kd.R (Kd.int .u8) 5 w' wd.heap.size (fun _ => True) (s7_) (be8s [hi])) ∧ (b 8 = true → Kd.R (Kd.int .u8) 5 w' wd.heap.size (fun _ => True) (s8_) (pr ++ be8s [lo] ++ be8s [hi])) ∧ (b 7 = true → b 4 = false → Far (u3) (s7_)) ∧ (b 9 = true → (m9_ : Value) = s8_)) HT_.out HW_.out (by kernel_rfl) (by kernel_rfl) ?_ ?_ ?_
          ·exact ⟨.bool false, .bool false, .bool false, .bool false, .bool false, by simp only [putSel, Bool.false_eq_true, if_false], below_drew HW.out, HP.out, fun _ => HD.out, fun h_ => absurd h_ (by decide), fun h_ => absurd h_ (by decide), fun h_ => absurd h_ (by decide), fun h_ => absurd h_ (by decide), fun h_ => absurd h_ (by decide), fun h_ => absurd h_ (by decide)⟩
          ·skip
           clear HD HP HW; refine steps_cons ?_ ?_
           ·rintro b a w' ⟨s3_, s4_, s7_, s8_, m9_, ha, QHW, QHP, QHD, QHM0, QHA0, QHM1, QHA1, QP0_1, QX9_⟩ hb_ hon hoff; refine ⟨_, rfl, fun K hK => ?_⟩; have e60 := ef ha 60 (.pointer (some ⟨wr.heap.size, 2, none⟩)); replace ha := sd ha; have HW := sd QHW; have HP := sd QHP; have HD := sd (QHD (aC hoff 4)); have q0 := (blk_cell HP.out 2).trans (rfl : _ = some (Value.int .i64 lo)); refine value_ (w1 := w') (v := .int .i64 lo) (by rfl) rfl ?_ ?_
            ·go_simp; (try simp only [i64_w]); try rfl
            refine hK.out _ _ ⟨s3_, s4_, s7_, s8_, m9_, uk ha.out 0 hb_ rfl rfl rfl, QHW, QHP, QHD, fun h0_ _ => aF hoff 3 h0_, fun h0_ _ => aF hoff 4 h0_, fun h0_ _ => aF hoff 7 h0_, fun h0_ => aF hoff 8 h0_, fun h0_ _ => aF hoff 7 h0_, fun h0_ => aF hoff 9 h0_⟩
           refine steps_cons ?_ ?_
           ·rintro b a w' ⟨s3_, s4_, s7_, s8_, m9_, ha, QHW, QHP, QHD, QHM0, QHA0, QHM1, QHA1, QP0_1, QX9_⟩ hb_ hon hoff; refine ⟨_, rfl, fun K hK => ?_⟩; have e61 := ek ha 0 2 61 (.int .i64 lo) hon; replace ha := sd ha; have HW := sd QHW; have HP := sd QHP; have HD := sd (QHD (aC hoff 4)); refine goes_ Tryd.func76 (by kernel_rfl) rfl #[.int .i64 lo] (by rfl) rfl rfl (ev1 e61) ?_; refine (rnumber1_calls lo w').mono ?_; rintro e w2 ⟨v2, rfl, hR, hB⟩; refine ⟨_, rfl, ?_⟩; refine hK.out _ _ ⟨v2, s4_, s7_, s8_, m9_, uk ha.out 1 hb_ rfl rfl rfl, below_step HW.out hB, blk_below HP.out hB, fun _ => Kd.R_below HD.out hB, fun _ _ => Kd.R_lower hR HW.out.size, fun h0_ _ => aF hoff 4 h0_, fun h0_ _ => aF hoff 7 h0_, fun h0_ => aF hoff 8 h0_, fun h0_ _ => aF hoff 7 h0_, fun h0_ => aF hoff 9 h0_⟩
           refine steps_cons ?_ ?_
           ·rintro b a w' ⟨s3_, s4_, s7_, s8_, m9_, ha, QHW, QHP, QHD, QHM0, QHA0, QHM1, QHA1, QP0_1, QX9_⟩ hb_ hon hoff; refine ⟨_, rfl, fun K hK => ?_⟩; have e59 := ef ha 59 (u3); have e62 := ek ha 1 3 62 (s3_) hon; replace ha := sd ha; have HW := sd QHW; have HP := sd QHP; have HD := sd (QHD hb_); have HM0 := sd (QHM0 (aC hon 3) hb_); obtain ⟨aR, cR, hs, hcR, hCR⟩ := Kd.R_reads HM0.out; rw [hs] at e62; refine cat_step_at (Kd.int .u8) intKM wd w' wd.heap.size (by rfl) (.tmp 59) (.tmp 62) 22 5 (.int .u8 0) 1 rfl Tryd.underlying22 infoU8 rfl (by decide) (by omega) (u3) (pr) (be8s [lo]) (aR) ((be8s [lo]).length) (cR) (eval_of e59) (eval_of e62) (HD.out) (hCR) HW.out HW.out.size (by first | omega | (simp only [List.length_append, List.length_cons, List.length_nil, be8s_len]; omega)) ?_; intro v1 w1 ho hb hg hat; refine hK.out _ _ ⟨s3_, v1, s7_, s8_, m9_, uk ha.out 2 hb_ rfl rfl rfl, hb, blk_grown HP.out hg (Kd.R_ne HD.out HP.out (by decide)), fun h0_ => aU b 4 h0_, fun _ h1_ => aU b 4 h1_, fun _ _ => ho, fun h0_ _ => aF hoff 7 h0_, fun h0_ => aF hoff 8 h0_, fun _ h1_ => aU b 4 h1_, fun h0_ => aF hoff 9 h0_⟩
           refine steps_cons ?_ ?_
           ·rintro b a w' ⟨s3_, s4_, s7_, s8_, m9_, ha, QHW, QHP, QHD, QHM0, QHA0, QHM1, QHA1, QP0_1, QX9_⟩ hb_ hon hoff; refine ⟨_, rfl, fun K hK => ?_⟩; have e64 := ef ha 64 (.pointer (some ⟨wr.heap.size, 3, none⟩)); replace ha := sd ha; have HW := sd QHW; have HP := sd QHP; have q0 := (blk_cell HP.out 3).trans (rfl : _ = some (Value.int .i64 hi)); refine value_ (w1 := w') (v := .int .i64 hi) (by rfl) rfl ?_ ?_
            ·go_simp; (try simp only [i64_w]); try rfl
            refine hK.out _ _ ⟨s3_, s4_, s7_, s8_, m9_, uk ha.out 3 hb_ rfl rfl rfl, QHW, QHP, QHD, QHM0, QHA0, fun h0_ _ => aF hoff 7 h0_, fun h0_ => aF hoff 8 h0_, fun h0_ _ => aF hoff 7 h0_, fun h0_ => aF hoff 9 h0_⟩
           refine steps_cons ?_ ?_
           ·rintro b a w' ⟨s3_, s4_, s7_, s8_, m9_, ha, QHW, QHP, QHD, QHM0, QHA0, QHM1, QHA1, QP0_1, QX9_⟩ hb_ hon hoff; refine ⟨_, rfl, fun K hK => ?_⟩; have e65 := ek ha 3 6 65 (.int .i64 hi) hon; replace ha := sd ha; have HW := sd QHW; have HP := sd QHP; have HA0 := sd (QHA0 (aC hon 4) (aC hoff 8)); refine goes_ Tryd.func76 (by kernel_rfl) rfl #[.int .i64 hi] (by rfl) rfl rfl (ev1 e65) ?_; refine (rnumber1_calls hi w').mono ?_; rintro e w2 ⟨v2, rfl, hR, hB⟩; refine ⟨_, rfl, ?_⟩; refine hK.out _ _ ⟨s3_, s4_, v2, s8_, m9_, uk ha.out 4 hb_ rfl rfl rfl, below_step HW.out hB, blk_below HP.out hB, fun h0_ => aT hon 4 h0_, fun _ h1_ => aT hon 4 h1_, fun _ _ => Kd.R_below HA0.out hB, fun _ _ => Kd.R_lower hR HW.out.size, fun h0_ => aF hoff 8 h0_, fun _ h1_ => aT hon 4 h1_, fun h0_ => aF hoff 9 h0_⟩
           refine steps_cons ?_ ?_
           ·rintro b a w' ⟨s3_, s4_, s7_, s8_, m9_, ha, QHW, QHP, QHD, QHM0, QHA0, QHM1, QHA1, QP0_1, QX9_⟩ hb_ hon hoff; refine ⟨_, rfl, fun K hK => ?_⟩; have e63 := ek ha 2 4 63 (s4_) hon; have e66 := ek ha 4 7 66 (s7_) hon; replace ha := sd ha; have HW := sd QHW; have HP := sd QHP; have HA0 := sd (QHA0 (aC hon 4) hb_); have HM1 := sd (QHM1 (aC hon 7) hb_); obtain ⟨aR, cR, hs, hcR, hCR⟩ := Kd.R_reads HM1.out; rw [hs] at e66; refine cat_step_at (Kd.int .u8) intKM wd w' wd.heap.size (by rfl) (.tmp 63) (.tmp 66) 22 5 (.int .u8 0) 1 rfl Tryd.underlying22 infoU8 rfl (by decide) (by omega) (s4_) (pr ++ be8s [lo]) (be8s [hi]) (aR) ((be8s [hi]).length) (cR) (eval_of e63) (eval_of e66) (HA0.out) (hCR) HW.out HW.out.size (by first | omega | (simp only [List.length_append, List.length_cons, List.length_nil, be8s_len]; omega)) ?_; intro v1 w1 ho hb hg hat; refine hK.out _ _ ⟨s3_, s4_, s7_, v1, m9_, uk ha.out 5 hb_ rfl rfl rfl, hb, blk_grown HP.out hg (Kd.R_ne HA0.out HP.out (by decide)), fun h0_ => aT hon 4 h0_, fun _ h1_ => aT hon 4 h1_, fun _ h1_ => aU b 8 h1_, fun _ h1_ => aU b 8 h1_, fun _ => ho, fun _ h1_ => aT hon 4 h1_, fun h0_ => aF hoff 9 h0_⟩
           refine steps_cons ?_ ?_
           ·rintro b a w' ⟨s3_, s4_, s7_, s8_, m9_, ha, QHW, QHP, QHD, QHM0, QHA0, QHM1, QHA1, QP0_1, QX9_⟩ hb_ hon hoff; refine ⟨_, rfl, fun K hK => ?_⟩; have e67 := ek ha 5 8 67 (s8_) hon; replace ha := sd ha; have HW := sd QHW; have HP := sd QHP; have HA1 := sd (QHA1 (aC hon 8)); refine value_ (w1 := w') (v := s8_) (by rfl) rfl ?_ ?_
            ·go_simp; (try simp only [i64_w]); try rfl
            refine hK.out _ _ ⟨s3_, s4_, s7_, s8_, (s8_), uk ha.out 6 hb_ rfl rfl rfl, QHW, QHP, fun h0_ => aT hon 4 h0_, fun _ h1_ => aT hon 4 h1_, fun _ h1_ => aT hon 8 h1_, fun _ h1_ => aT hon 8 h1_, QHA1, fun _ h1_ => aT hon 4 h1_, fun _ => rfl⟩
           exact steps_nil
          ·rintro b a w' hall ⟨s3_, s4_, s7_, s8_, m9_, ha, QHW, QHP, QHD, QHM0, QHA0, QHM1, QHA1, QP0_1, QX9_⟩; clear HD HP HW; have hb2_ := hall 2 (by kernel_rfl); have hb3_ := hall 3 (by kernel_rfl); have hb4_ := hall 4 (by kernel_rfl); have hb6_ := hall 6 (by kernel_rfl); have hb7_ := hall 7 (by kernel_rfl); have hb8_ := hall 8 (by kernel_rfl); have hb9_ := hall 9 (by kernel_rfl); subst ha; obtain rfl := QX9_ hb9_; simp only [putSel, hb2_, hb3_, hb4_, hb6_, hb7_, hb8_, hb9_, if_true, Act.put, List.setIfInBounds_toArray, List.set_cons_zero, List.set_cons_succ]; have HW := sd QHW; clear QHW; have HP := sd QHP; clear QHP; clear QHD; clear QHM0; clear QHA0; clear QHM1; have HA1 := sd (QHA1 hb8_); clear QHA1; clear QP0_1; clear hall hb2_ hb3_ hb4_ hb6_ hb7_ hb8_ hb9_; go_wp2
           go_roundw
           case rel => exact ⟨j + 1, by omega, by go_num, ⟨by rw [HE3.out]; exact HA1.out⟩, HW⟩
           case measure => simp [intOf]; omega
         ·have kb : (kd == 1) = false := by simp [k1]
          have HE3 : Hid (p1 ++ (p.take (j + 1)).flatMap cW = pr ++ text8 tx) := Lib.hid (by rw [HE2.out, if_neg k1]); clear k1; have q4 := blk_cell HP.out 4; go_wp2_with (first | (go_at_call 75; refine (rtext_calls tx HTX.out _).mono ?_; rintro e w3 ⟨v3, rfl, hR, hB⟩; obtain ⟨aT, cT, rfl, hcT, hCT⟩ := Kd.R_reads hR; have HCT := sd hCT; have HO3 := sd (Kd.R_below HD.out hB); have HW4 := sd (below_step HW.out hB); clear hR hB hCT hcT) | ((with_reducible refine gate_builtin (b := .append) (xs := #[.tmp 68, .tmp 71]) rfl ?_); at_builtin; refine Kd.R_append_row (Value.int .u8) (0 : Int) (h1 := fun _ => rfl) (w0 := wd) (wd.heap.size) rfl (.tmp 68) (.tmp 71) 22 5 (.int .u8 0) 1 rfl Tryd.underlying22 infoU8 rfl (by decide) (u3) (pr) (text8 tx) (aT) ((text8 tx).length) (cT) (fun _ => True) rfl rfl (fun _ _ => trivial) ?aO ?aR ?aB ?aS ?aL ?_; (case aO => exact HO3.out); (case aR => exact HCT.out); (case aB => exact HW4.out); (case aS => exact (below_size (by exact HW4.out))); (case aL => ((try simp only [be8s_len, List.length_append, List.length_cons, List.length_nil]); omega)); intro v1 w1 ho hb hg hat; have HO4 := sd ho; have HW5 := sd hb; clear ho hb hg hat))
          go_roundw
          case rel => exact ⟨j + 1, by omega, by go_num, ⟨by rw [HE3.out]; exact HO4.out⟩, HW5⟩
          case measure => simp [intOf]; omega
       ·obtain rfl : j = p.length := by omega
        go_wp2_with fail; go_meet
        case rel => exact ⟨⟨by have := HOj.out; rw [List.take_length] at this; rw [HQ2.out]; exact this⟩, HWr⟩
    case rest =>
     obtain ⟨HOn, HWn⟩ := hcut; clear HO HW
     have hbn : (c1 ++ pB k p).length ≤ 60000000 := by
      have h1 := pB_le k p; rw [List.length_append]; omega
     generalize c1 ++ pB k p = c2 at HOn hbn HE; clear q0 q5 hlx hb1; have HO := HOn; have HW := HWn; clear HOn HWn; have hx1 := blk_below HX.out HW.out; have q0 := blk_cell hx1 0; have q6 := blk_cell hx1 6; have hlx := blk_lt hx1; clear hx1; obtain ⟨bS, hS⟩ : ∃ b, (k == 5) = b := ⟨_, rfl⟩
     go_upto_if 76 with fail
     rw [hS] at HS; clear hS
     go_cut [3] (fun v wx => Aside0 (Kd.R (Kd.int .u8) 5 wx wd.heap.size (fun _ => True) v (c2 ++ sB k s)) ∧ Aside0 (Below wd.heap.size wd wx))
     case first =>
      cases bS
      case false =>
       have HQ := Lib.hid (show sB k s = [] by unfold sB; rw [HS.out]; rfl); go_wp2; go_meet
       case rel => exact ⟨⟨by rw [HQ.out, List.append_nil]; exact HO.out⟩, HW⟩
      case true =>
       have HQ := Lib.hid (show sB k s = [(s.length : Int) % 256] ++ s.flatMap aW by unfold sB; rw [HS.out]; rfl)
       go_upto_block 2 with (first | ((with_reducible refine gate_builtin (b := .append) (xs := #[.tmp 77, .tmp 82]) rfl ?_); at_builtin; refine Kd.R_append (Kd.int .u8) (w0 := wd) (wd.heap.size) rfl (.tmp 77) (.tmp 82) 22 5 (.int .u8 0) 1 rfl Tryd.underlying22 infoU8 rfl (by decide) (by omega) (u3) (c2) ((s.length : Int) % 256) [.int .u8 ((s.length : Int) % 256)] (fun _ => True) (fun _ => False) rfl rfl ?aP (fun _ hk => hk.elim) ?aF ?aO ?aB ?aS ?aL ?_; (case aP => exact rfl); (case aB => exact (by repeat (with_reducible first | exact HW.out | apply below_alloc | apply pw_below_drewN | apply below_drew1))); (case aF => exact (fun _ _ => trivial)); (case aO => exact (by (with_reducible repeat (first | apply Kd.R_alloc | apply Kd.R_drewN | apply Kd.R_drew)); exact HO.out)); (case aS => exact (below_size (by repeat (with_reducible first | exact HW.out | apply below_alloc | apply pw_below_drewN | apply below_drew1)))); (case aL => omega); intro v1 w1 ho hb hg hat; have HO1 := sd ho; have HW2 := sd hb; have hx2 := (blk_below HX.out hb); have r6 := blk_cell hx2 6; have hly := blk_lt hx2; clear ho hb hg hat hx2))
       have hP : (c2 ++ [(s.length : Int) % 256]).length ≤ 60000000 + 1 := by simp; omega
       obtain ⟨p1, hp1⟩ : ∃ q, c2 ++ [(s.length : Int) % 256] = q := ⟨_, rfl⟩; have HQ2 : Hid (c2 ++ sB k s = p1 ++ s.flatMap aW) := Lib.hid (by rw [HQ.out, ← List.append_assoc, hp1]); rw [hp1] at HO1 hP; clear hp1; go_wp2_with fail
       go_loopw [3, 87] (fun v i wr => ∃ j : Nat, j ≤ s.length ∧ i = .int .i64 (j : Int) ∧ Aside0 (Kd.R (Kd.int .u8) 5 wr wd.heap.size (fun _ => True) v (p1 ++ (s.take j).flatMap aW)) ∧ Aside0 (Below wd.heap.size wd wr)) (fun _ i _ => s.length - (intOf i).toNat)
       case atStart => exact ⟨0, Nat.zero_le _, rfl, ⟨by simpa using HO1.out⟩, HW2⟩
       case round =>
        obtain ⟨j, hj, rfl, HOj, HWr⟩ := hrel
        by_cases hlt : j < s.length
        ·obtain ⟨ad, x, rfl, hx, d0, d1, d2, d3⟩ := at_At (Kd.C_below HL.out.s (below_step HB.out HWr.out)) j hlt; have HSx := HSH.out.s x (List.mem_of_getElem? hx); obtain ⟨nm, it, n0, tx⟩ := x; have HTN : Hid (nm.size ≤ 255) := Lib.hid HSx.1; have HTX : Hid (tx.size ≤ 255) := Lib.hid HSx.2; clear HSx; obtain ⟨pr0, hpr⟩ : ∃ pr, p1 ++ (s.take j).flatMap aW = pr := ⟨_, rfl⟩
         have hpl : pr0.length ≤ 130000000 := by
          have h1 := flatMap_le aW 540 aW_le (s.take j); rw [List.length_take] at h1; rw [← hpr, List.length_append]; omega
         have htn := text8_le nm; have htt := text8_le tx; have HE2 : Hid (p1 ++ (s.take (j + 1)).flatMap aW = pr0 ++ text8 nm ++ (if it = true then [1] ++ text8 tx else [0] ++ be8s [n0])) := Lib.hid (by rw [take_snocF aW hx, ← List.append_assoc, hpr]; simp only [aW, List.append_assoc]); rw [hpr] at HOj; clear hpr hx; have HD := sd (Kd.R_alloc HOj.out (.cells #[.string nm, .bool it, .int .i64 n0, .string tx] 59)); have HW0 := sd (below_alloc HWr.out (.cells #[.string nm, .bool it, .int .i64 n0, .string tx] 59)); have HP := sd (blk_new wr (.cells #[.string nm, .bool it, .int .i64 n0, .string tx] 59))
         go_upto_region 19 with fail
         clear d0 d1 d2 d3; generalize wr.alloc (.cells #[.string nm, .bool it, .int .i64 n0, .string tx] 59) = wb at *; clear HOj HWr HW; have HW := HW0; clear HW0; have q0 := blk_cell HP.out 0; have hlp := blk_lt HP.out
         go_cut [3] from 91 to 95 (fun v wx => Aside0 (Kd.R (Kd.int .u8) 5 wx wd.heap.size (fun _ => True) v (pr0 ++ text8 nm)) ∧ Aside0 (wx.heap[wr.heap.size]? = some (.cells #[.string nm, .bool it, .int .i64 n0, .string tx] 59 (0, 0))) ∧ Aside0 (Below wd.heap.size wd wx))
         case first =>
          go_wp2_with (first | (go_at_call 75; refine (rtext_calls nm HTN.out _).mono ?_; rintro e w3 ⟨v3, rfl, hR, hB⟩; obtain ⟨aT, cT, rfl, hcT, hCT⟩ := Kd.R_reads hR; have HCT := sd hCT; have HO3 := sd (Kd.R_below HD.out hB); have HW4 := sd (below_step HW.out hB); have HPa := sd (blk_below HP.out hB); clear hR hB hCT hcT) | ((with_reducible refine gate_builtin (b := .append) (xs := #[.tmp 91, .tmp 94]) rfl ?_); at_builtin; refine Kd.R_append_row (Value.int .u8) (0 : Int) (h1 := fun _ => rfl) (w0 := wd) (wd.heap.size) rfl (.tmp 91) (.tmp 94) 22 5 (.int .u8 0) 1 rfl Tryd.underlying22 infoU8 rfl (by decide) (u3) (pr0) (text8 nm) (aT) ((text8 nm).length) (cT) (fun _ => True) rfl rfl (fun _ _ => trivial) ?aO ?aR ?aB ?aS ?aL ?_; (case aO => exact HO3.out); (case aR => exact HCT.out); (case aB => exact HW4.out); (case aS => exact (below_size (by exact HW4.out))); (case aL => ((try simp only [be8s_len, List.length_append, List.length_cons, List.length_nil]); omega)); intro v1 w1 ho hb hg hat; have HO4 := sd ho; have HW5 := sd hb; have HPb := sd (blk_grown HPa.out hg (Kd.R_ne HO3.out HPa.out (by decide))); clear ho hb hg hat)); go_meet
          case rel => exact ⟨HO4, HPb, HW5⟩
         case rest =>
          obtain ⟨HD1, HP1, HW1⟩ := hcut; clear HD HP HW q0 hlp; have HD := HD1; have HP := HP1; have HW := HW1; clear HD1 HP1 HW1; obtain ⟨pr, hpr⟩ : ∃ q, pr0 ++ text8 nm = q := ⟨_, rfl⟩
          have hpl2 : pr.length ≤ 130000300 := by
           rw [← hpr]; simp only [List.length_append]; omega
          rw [hpr] at HD HE2; clear hpr hpl; have q1 := blk_cell HP.out 1; have hlp := blk_lt HP.out; cases it
          ·have HE3 : Hid (p1 ++ (s.take (j + 1)).flatMap aW = pr ++ [0] ++ be8s [n0]) := Lib.hid (by rw [HE2.out, if_neg (by decide), List.append_assoc])
           go_upto_region 22 with fail
           clear q1 hlp; refine start_ (n := 9) (S := fun w' => True) (ds := []) #[false, false, false, false, false, false, false, false, false] (by kernel_rfl) rfl rfl trivial (fun hHeld => ?_); refine with_tabW rb22Reg.tab22 rb22Reg.bits22 (fun HT_ HW_ => ?_); refine pure_ (i := 0) (N := some 107) (v := ?_) (a' := ?_) #[true, false, false, false, false, false, false, false, false] rfl rfl (any_of HT_.out (by kernel_rfl)) (fun _ _ _ h => h) (Or.inl ⟨by rfl, ?_⟩) ?_ ?_
           rotate_left
           ·intro w'; go_simp
            with_reducible rfl
           rotate_left
           ·simp only [Act.put, List.setIfInBounds_toArray, List.set_cons_zero, List.set_cons_succ, i64_w, i32_w]; rfl
           refine pure_ (i := 3) (N := some 110) (v := ?_) (a' := ?_) #[true, false, false, true, false, false, false, false, false] rfl rfl (any_of HT_.out (by kernel_rfl)) (fun _ _ _ h => h) (Or.inl ⟨by rfl, ?_⟩) ?_ ?_
           rotate_left
           ·intro w'; go_simp
            with_reducible rfl
           rotate_left
           ·simp only [Act.put, List.setIfInBounds_toArray, List.set_cons_zero, List.set_cons_succ, i64_w, i32_w]; rfl
           refine pure_ (i := 4) (N := some 111) (v := ?_) (a' := ?_) #[true, false, false, true, true, false, false, false, false] rfl rfl (any_of HT_.out (by kernel_rfl)) (fun _ _ _ h => h) (Or.inl ⟨by rfl, ?_⟩) ?_ ?_
           rotate_left
           ·intro w'; go_simp
            with_reducible rfl
           rotate_left
           ·simp only [Act.put, List.setIfInBounds_toArray, List.set_cons_zero, List.set_cons_succ, i64_w, i32_w]; rfl
           refine inv_at [1, 2, 5, 6, 7, 8] (fun a0_ b a w' => ∃ (b1_ : Nat) (s2_ : Value) (s6_ : Value) (s7_ : Value) (m1_ : Value) (m8_ : Value), a = putSel a0_ b [(1, 108, m1_), (2, 109, s2_), (5, 112, .int .i64 n0), (6, 113, s6_), (7, 114, s7_), (8, 3, m8_)] ∧ (Below wd.heap.size wd w') ∧ (w'.heap[wr.heap.size]? = some (.cells #[.string nm, .bool false, .int .i64 n0, .string tx] 59 (0, 0))) ∧ (b 2 = false → Kd.R (Kd.int .u8) 5 w' wd.heap.size (fun _ => True) (u3) (pr)) ∧ (b 1 = true → b 2 = false → Kd.R (Kd.int .u8) 5 w' wd.heap.size (fun _ => True) (.slice (some ⟨b1_, 0, none⟩) 1 1) ([0])) ∧ (b 2 = true → b 7 = false → Kd.R (Kd.int .u8) 5 w' wd.heap.size (fun _ => True) (s2_) (pr ++ [0])) ∧ (b 6 = true → b 7 = false → Kd.R (Kd.int .u8) 5 w' wd.heap.size (fun _ => True) (s6_) (be8s [n0])) ∧ (b 7 = true → Kd.R (Kd.int .u8) 5 w' wd.heap.size (fun _ => True) (s7_) (pr ++ [0] ++ be8s [n0])) ∧ (b 6 = true → b 2 = false → Far (u3) (s6_)) ∧ (b 1 = true → (m1_ : Value) = .slice (some ⟨b1_, 0, none⟩) 1 1) ∧ (b 8 = true → (m8_ : Value) = s7_)) HT_.out HW_.out (by kernel_rfl) (by kernel_rfl) ?_ ?_ ?_
           ·exact ⟨0, .bool false, .bool false, .bool false, .bool false, .bool false, by simp only [putSel, Bool.false_eq_true, if_false], below_drew HW.out, HP.out, fun _ => HD.out, fun h_ => absurd h_ (by decide), fun h_ => absurd h_ (by decide), fun h_ => absurd h_ (by decide), fun h_ => absurd h_ (by decide), fun h_ => absurd h_ (by decide), fun h_ => absurd h_ (by decide), fun h_ => absurd h_ (by decide)⟩
           ·skip
            clear HD HP HW; refine steps_cons ?_ ?_
            ·rintro b a w' ⟨b1_, s2_, s6_, s7_, m1_, m8_, ha, QHW, QHP, QHD, QHM0, QHA0, QHM1, QHA1, QP0_1, QX1_, QX8_⟩ hb_ hon hoff; refine ⟨_, rfl, fun K hK => ?_⟩; replace ha := sd ha; have HW := sd QHW; have HP := sd QHP; have HD := sd (QHD (aC hoff 2)); refine value_ (w1 := w'.alloc (.cells #[.int .u8 (0)] 5)) (v := .slice (some ⟨w'.heap.size, 0, none⟩) 1 1) (by rfl) rfl (by go_simp) ?_; refine hK.out _ _ ⟨w'.heap.size, s2_, s6_, s7_, (.slice (some ⟨w'.heap.size, 0, none⟩) 1 1), m8_, uk ha.out 0 hb_ rfl rfl rfl, below_alloc HW.out _, blk_alloc HP.out _, fun _ => Kd.R_alloc HD.out _, fun _ _ => Kd.R_lower (own_oneR w' _) HW.out.size, fun h0_ _ => aF hoff 2 h0_, fun h0_ _ => aF hoff 6 h0_, fun h0_ => aF hoff 7 h0_, fun h0_ _ => aF hoff 6 h0_, fun _ => rfl, fun h0_ => aF hoff 8 h0_⟩
            refine steps_cons ?_ ?_
            ·rintro b a w' ⟨b1_, s2_, s6_, s7_, m1_, m8_, ha, QHW, QHP, QHD, QHM0, QHA0, QHM1, QHA1, QP0_1, QX1_, QX8_⟩ hb_ hon hoff; refine ⟨_, rfl, fun K hK => ?_⟩; have e107 := ef ha 107 (u3); have e108 := ek ha 0 1 108 (m1_) hon; rw [QX1_ (aC hon 1)] at e108; replace ha := sd ha; have HW := sd QHW; have HP := sd QHP; have HD := sd (QHD hb_); have HM0 := sd (QHM0 (aC hon 1) hb_); obtain ⟨aR, cR, hs, hcR, hCR⟩ := Kd.R_reads HM0.out; rw [hs] at e108; refine cat_step_at (Kd.int .u8) intKM wd w' wd.heap.size (by rfl) (.tmp 107) (.tmp 108) 22 5 (.int .u8 0) 1 rfl Tryd.underlying22 infoU8 rfl (by decide) (by omega) (u3) (pr) ([0]) (aR) (([0]).length) (cR) (eval_of e107) (eval_of e108) (HD.out) (hCR) HW.out HW.out.size (by first | omega | (simp only [List.length_append, List.length_cons, List.length_nil, be8s_len]; omega)) ?_; intro v1 w1 ho hb hg hat; refine hK.out _ _ ⟨b1_, v1, s6_, s7_, m1_, m8_, uk ha.out 1 hb_ rfl rfl rfl, hb, blk_grown HP.out hg (Kd.R_ne HD.out HP.out (by decide)), fun h0_ => aU b 2 h0_, fun _ h1_ => aU b 2 h1_, fun _ _ => ho, fun h0_ _ => aF hoff 6 h0_, fun h0_ => aF hoff 7 h0_, fun _ h1_ => aU b 2 h1_, QX1_, fun h0_ => aF hoff 8 h0_⟩
            refine steps_cons ?_ ?_
            ·rintro b a w' ⟨b1_, s2_, s6_, s7_, m1_, m8_, ha, QHW, QHP, QHD, QHM0, QHA0, QHM1, QHA1, QP0_1, QX1_, QX8_⟩ hb_ hon hoff; refine ⟨_, rfl, fun K hK => ?_⟩; have e111 := ef ha 111 (.pointer (some ⟨wr.heap.size, 2, none⟩)); replace ha := sd ha; have HW := sd QHW; have HP := sd QHP; have q0 := (blk_cell HP.out 2).trans (rfl : _ = some (Value.int .i64 n0)); refine value_ (w1 := w') (v := .int .i64 n0) (by rfl) rfl ?_ ?_
             ·go_simp; (try simp only [i64_w]); try rfl
             refine hK.out _ _ ⟨b1_, s2_, s6_, s7_, m1_, m8_, uk ha.out 2 hb_ rfl rfl rfl, QHW, QHP, QHD, QHM0, QHA0, fun h0_ _ => aF hoff 6 h0_, fun h0_ => aF hoff 7 h0_, fun h0_ _ => aF hoff 6 h0_, QX1_, fun h0_ => aF hoff 8 h0_⟩
            refine steps_cons ?_ ?_
            ·rintro b a w' ⟨b1_, s2_, s6_, s7_, m1_, m8_, ha, QHW, QHP, QHD, QHM0, QHA0, QHM1, QHA1, QP0_1, QX1_, QX8_⟩ hb_ hon hoff; refine ⟨_, rfl, fun K hK => ?_⟩; have e112 := ek ha 2 5 112 (.int .i64 n0) hon; replace ha := sd ha; have HW := sd QHW; have HP := sd QHP; have HA0 := sd (QHA0 (aC hon 2) (aC hoff 7)); refine goes_ Tryd.func76 (by kernel_rfl) rfl #[.int .i64 n0] (by rfl) rfl rfl (ev1 e112) ?_; refine (rnumber1_calls n0 w').mono ?_; rintro e w2 ⟨v2, rfl, hR, hB⟩; refine ⟨_, rfl, ?_⟩; refine hK.out _ _ ⟨b1_, s2_, v2, s7_, m1_, m8_, uk ha.out 3 hb_ rfl rfl rfl, below_step HW.out hB, blk_below HP.out hB, fun h0_ => aT hon 2 h0_, fun _ h1_ => aT hon 2 h1_, fun _ _ => Kd.R_below HA0.out hB, fun _ _ => Kd.R_lower hR HW.out.size, fun h0_ => aF hoff 7 h0_, fun _ h1_ => aT hon 2 h1_, QX1_, fun h0_ => aF hoff 8 h0_⟩
            refine steps_cons ?_ ?_
            ·rintro b a w' ⟨b1_, s2_, s6_, s7_, m1_, m8_, ha, QHW, QHP, QHD, QHM0, QHA0, QHM1, QHA1, QP0_1, QX1_, QX8_⟩ hb_ hon hoff; refine ⟨_, rfl, fun K hK => ?_⟩; have e109 := ek ha 1 2 109 (s2_) hon; have e113 := ek ha 3 6 113 (s6_) hon; replace ha := sd ha; have HW := sd QHW; have HP := sd QHP; have HA0 := sd (QHA0 (aC hon 2) hb_); have HM1 := sd (QHM1 (aC hon 6) hb_); obtain ⟨aR, cR, hs, hcR, hCR⟩ := Kd.R_reads HM1.out; rw [hs] at e113; refine cat_step_at (Kd.int .u8) intKM wd w' wd.heap.size (by rfl) (.tmp 109) (.tmp 113) 22 5 (.int .u8 0) 1 rfl Tryd.underlying22 infoU8 rfl (by decide) (by omega) (s2_) (pr ++ [0]) (be8s [n0]) (aR) ((be8s [n0]).length) (cR) (eval_of e109) (eval_of e113) (HA0.out) (hCR) HW.out HW.out.size (by first | omega | (simp only [List.length_append, List.length_cons, List.length_nil, be8s_len]; omega)) ?_; intro v1 w1 ho hb hg hat; refine hK.out _ _ ⟨b1_, s2_, s6_, v1, m1_, m8_, uk ha.out 4 hb_ rfl rfl rfl, hb, blk_grown HP.out hg (Kd.R_ne HA0.out HP.out (by decide)), fun h0_ => aT hon 2 h0_, fun _ h1_ => aT hon 2 h1_, fun _ h1_ => aU b 7 h1_, fun _ h1_ => aU b 7 h1_, fun _ => ho, fun _ h1_ => aT hon 2 h1_, QX1_, fun h0_ => aF hoff 8 h0_⟩
            refine steps_cons ?_ ?_
            ·rintro b a w' ⟨b1_, s2_, s6_, s7_, m1_, m8_, ha, QHW, QHP, QHD, QHM0, QHA0, QHM1, QHA1, QP0_1, QX1_, QX8_⟩ hb_ hon hoff; refine ⟨_, rfl, fun K hK => ?_⟩; have e114 := ek ha 4 7 114 (s7_) hon; replace ha := sd ha; have HW := sd QHW; have HP := sd QHP; have HA1 := sd (QHA1 (aC hon 7)); refine value_ (w1 := w') (v := s7_) (by rfl) rfl ?_ ?_
             ·go_simp; (try simp only [i64_w]); try rfl
             refine hK.out _ _ ⟨b1_, s2_, s6_, s7_, m1_, (s7_), uk ha.out 5 hb_ rfl rfl rfl, QHW, QHP, fun h0_ => aT hon 2 h0_, fun _ h1_ => aT hon 2 h1_, fun _ h1_ => aT hon 7 h1_, fun _ h1_ => aT hon 7 h1_, QHA1, fun _ h1_ => aT hon 2 h1_, QX1_, fun _ => rfl⟩
            exact steps_nil
           ·rintro b a w' hall ⟨b1_, s2_, s6_, s7_, m1_, m8_, ha, QHW, QHP, QHD, QHM0, QHA0, QHM1, QHA1, QP0_1, QX1_, QX8_⟩; clear HD HP HW; have hb1_ := hall 1 (by kernel_rfl); have hb2_ := hall 2 (by kernel_rfl); have hb5_ := hall 5 (by kernel_rfl); have hb6_ := hall 6 (by kernel_rfl); have hb7_ := hall 7 (by kernel_rfl); have hb8_ := hall 8 (by kernel_rfl); subst ha; obtain rfl := QX1_ hb1_; obtain rfl := QX8_ hb8_; simp only [putSel, hb1_, hb2_, hb5_, hb6_, hb7_, hb8_, if_true, Act.put, List.setIfInBounds_toArray, List.set_cons_zero, List.set_cons_succ]; have HW := sd QHW; clear QHW; have HP := sd QHP; clear QHP; clear QHD; clear QHM0; clear QHA0; clear QHM1; have HA1 := sd (QHA1 hb7_); clear QHA1; clear QP0_1; clear hall hb1_ hb2_ hb5_ hb6_ hb7_ hb8_; go_wp2
            go_roundw
            case rel => exact ⟨j + 1, by omega, by go_num, ⟨by rw [HE3.out]; exact HA1.out⟩, HW⟩
            case measure => simp [intOf]; omega
          ·have HE3 : Hid (p1 ++ (s.take (j + 1)).flatMap aW = pr ++ [1] ++ text8 tx) := Lib.hid (by rw [HE2.out, if_pos rfl, List.append_assoc])
           go_upto_region 21 with fail
           clear q1 hlp; refine start_ (n := 9) (S := fun w' => True) (ds := []) #[false, false, false, false, false, false, false, false, false] (by kernel_rfl) rfl rfl trivial (fun hHeld => ?_); refine with_tabW rb21Reg.tab21 rb21Reg.bits21 (fun HT_ HW_ => ?_); refine pure_ (i := 0) (N := some 99) (v := ?_) (a' := ?_) #[true, false, false, false, false, false, false, false, false] rfl rfl (any_of HT_.out (by kernel_rfl)) (fun _ _ _ h => h) (Or.inl ⟨by rfl, ?_⟩) ?_ ?_
           rotate_left
           ·intro w'; go_simp
            with_reducible rfl
           rotate_left
           ·simp only [Act.put, List.setIfInBounds_toArray, List.set_cons_zero, List.set_cons_succ, i64_w, i32_w]; rfl
           refine pure_ (i := 3) (N := some 102) (v := ?_) (a' := ?_) #[true, false, false, true, false, false, false, false, false] rfl rfl (any_of HT_.out (by kernel_rfl)) (fun _ _ _ h => h) (Or.inl ⟨by rfl, ?_⟩) ?_ ?_
           rotate_left
           ·intro w'; go_simp
            with_reducible rfl
           rotate_left
           ·simp only [Act.put, List.setIfInBounds_toArray, List.set_cons_zero, List.set_cons_succ, i64_w, i32_w]; rfl
           refine pure_ (i := 4) (N := some 103) (v := ?_) (a' := ?_) #[true, false, false, true, true, false, false, false, false] rfl rfl (any_of HT_.out (by kernel_rfl)) (fun _ _ _ h => h) (Or.inl ⟨by rfl, ?_⟩) ?_ ?_
           rotate_left
           ·intro w'; go_simp
            with_reducible rfl
           rotate_left
           ·simp only [Act.put, List.setIfInBounds_toArray, List.set_cons_zero, List.set_cons_succ, i64_w, i32_w]; rfl
           refine inv_at [1, 2, 5, 6, 7, 8] (fun a0_ b a w' => ∃ (b1_ : Nat) (s2_ : Value) (s6_ : Value) (s7_ : Value) (m1_ : Value) (m8_ : Value), a = putSel a0_ b [(1, 100, m1_), (2, 101, s2_), (5, 104, .string tx), (6, 105, s6_), (7, 106, s7_), (8, 3, m8_)] ∧ (Below wd.heap.size wd w') ∧ (w'.heap[wr.heap.size]? = some (.cells #[.string nm, .bool true, .int .i64 n0, .string tx] 59 (0, 0))) ∧ (b 2 = false → Kd.R (Kd.int .u8) 5 w' wd.heap.size (fun _ => True) (u3) (pr)) ∧ (b 1 = true → b 2 = false → Kd.R (Kd.int .u8) 5 w' wd.heap.size (fun _ => True) (.slice (some ⟨b1_, 0, none⟩) 1 1) ([1])) ∧ (b 2 = true → b 7 = false → Kd.R (Kd.int .u8) 5 w' wd.heap.size (fun _ => True) (s2_) (pr ++ [1])) ∧ (b 6 = true → b 7 = false → Kd.R (Kd.int .u8) 5 w' wd.heap.size (fun _ => True) (s6_) (text8 tx)) ∧ (b 7 = true → Kd.R (Kd.int .u8) 5 w' wd.heap.size (fun _ => True) (s7_) (pr ++ [1] ++ text8 tx)) ∧ (b 6 = true → b 2 = false → Far (u3) (s6_)) ∧ (b 1 = true → (m1_ : Value) = .slice (some ⟨b1_, 0, none⟩) 1 1) ∧ (b 8 = true → (m8_ : Value) = s7_)) HT_.out HW_.out (by kernel_rfl) (by kernel_rfl) ?_ ?_ ?_
           ·exact ⟨0, .bool false, .bool false, .bool false, .bool false, .bool false, by simp only [putSel, Bool.false_eq_true, if_false], below_drew HW.out, HP.out, fun _ => HD.out, fun h_ => absurd h_ (by decide), fun h_ => absurd h_ (by decide), fun h_ => absurd h_ (by decide), fun h_ => absurd h_ (by decide), fun h_ => absurd h_ (by decide), fun h_ => absurd h_ (by decide), fun h_ => absurd h_ (by decide)⟩
           ·skip
            clear HD HP HW; refine steps_cons ?_ ?_
            ·rintro b a w' ⟨b1_, s2_, s6_, s7_, m1_, m8_, ha, QHW, QHP, QHD, QHM0, QHA0, QHM1, QHA1, QP0_1, QX1_, QX8_⟩ hb_ hon hoff; refine ⟨_, rfl, fun K hK => ?_⟩; replace ha := sd ha; have HW := sd QHW; have HP := sd QHP; have HD := sd (QHD (aC hoff 2)); refine value_ (w1 := w'.alloc (.cells #[.int .u8 (1)] 5)) (v := .slice (some ⟨w'.heap.size, 0, none⟩) 1 1) (by rfl) rfl (by go_simp) ?_; refine hK.out _ _ ⟨w'.heap.size, s2_, s6_, s7_, (.slice (some ⟨w'.heap.size, 0, none⟩) 1 1), m8_, uk ha.out 0 hb_ rfl rfl rfl, below_alloc HW.out _, blk_alloc HP.out _, fun _ => Kd.R_alloc HD.out _, fun _ _ => Kd.R_lower (own_oneR w' _) HW.out.size, fun h0_ _ => aF hoff 2 h0_, fun h0_ _ => aF hoff 6 h0_, fun h0_ => aF hoff 7 h0_, fun h0_ _ => aF hoff 6 h0_, fun _ => rfl, fun h0_ => aF hoff 8 h0_⟩
            refine steps_cons ?_ ?_
            ·rintro b a w' ⟨b1_, s2_, s6_, s7_, m1_, m8_, ha, QHW, QHP, QHD, QHM0, QHA0, QHM1, QHA1, QP0_1, QX1_, QX8_⟩ hb_ hon hoff; refine ⟨_, rfl, fun K hK => ?_⟩; have e99 := ef ha 99 (u3); have e100 := ek ha 0 1 100 (m1_) hon; rw [QX1_ (aC hon 1)] at e100; replace ha := sd ha; have HW := sd QHW; have HP := sd QHP; have HD := sd (QHD hb_); have HM0 := sd (QHM0 (aC hon 1) hb_); obtain ⟨aR, cR, hs, hcR, hCR⟩ := Kd.R_reads HM0.out; rw [hs] at e100; refine cat_step_at (Kd.int .u8) intKM wd w' wd.heap.size (by rfl) (.tmp 99) (.tmp 100) 22 5 (.int .u8 0) 1 rfl Tryd.underlying22 infoU8 rfl (by decide) (by omega) (u3) (pr) ([1]) (aR) (([1]).length) (cR) (eval_of e99) (eval_of e100) (HD.out) (hCR) HW.out HW.out.size (by first | omega | (simp only [List.length_append, List.length_cons, List.length_nil, be8s_len]; omega)) ?_; intro v1 w1 ho hb hg hat; refine hK.out _ _ ⟨b1_, v1, s6_, s7_, m1_, m8_, uk ha.out 1 hb_ rfl rfl rfl, hb, blk_grown HP.out hg (Kd.R_ne HD.out HP.out (by decide)), fun h0_ => aU b 2 h0_, fun _ h1_ => aU b 2 h1_, fun _ _ => ho, fun h0_ _ => aF hoff 6 h0_, fun h0_ => aF hoff 7 h0_, fun _ h1_ => aU b 2 h1_, QX1_, fun h0_ => aF hoff 8 h0_⟩
            refine steps_cons ?_ ?_
            ·rintro b a w' ⟨b1_, s2_, s6_, s7_, m1_, m8_, ha, QHW, QHP, QHD, QHM0, QHA0, QHM1, QHA1, QP0_1, QX1_, QX8_⟩ hb_ hon hoff; refine ⟨_, rfl, fun K hK => ?_⟩; have e103 := ef ha 103 (.pointer (some ⟨wr.heap.size, 3, none⟩)); replace ha := sd ha; have HW := sd QHW; have HP := sd QHP; have q0 := (blk_cell HP.out 3).trans (rfl : _ = some (Value.string tx)); refine value_ (w1 := w') (v := .string tx) (by rfl) rfl ?_ ?_
             ·go_simp; (try simp only [i64_w]); try rfl
             refine hK.out _ _ ⟨b1_, s2_, s6_, s7_, m1_, m8_, uk ha.out 2 hb_ rfl rfl rfl, QHW, QHP, QHD, QHM0, QHA0, fun h0_ _ => aF hoff 6 h0_, fun h0_ => aF hoff 7 h0_, fun h0_ _ => aF hoff 6 h0_, QX1_, fun h0_ => aF hoff 8 h0_⟩
            refine steps_cons ?_ ?_
            ·rintro b a w' ⟨b1_, s2_, s6_, s7_, m1_, m8_, ha, QHW, QHP, QHD, QHM0, QHA0, QHM1, QHA1, QP0_1, QX1_, QX8_⟩ hb_ hon hoff; refine ⟨_, rfl, fun K hK => ?_⟩; have e104 := ek ha 2 5 104 (.string tx) hon; replace ha := sd ha; have HW := sd QHW; have HP := sd QHP; have HA0 := sd (QHA0 (aC hon 2) (aC hoff 7)); refine goes_ Tryd.func75 (by kernel_rfl) rfl #[.string tx] (by rfl) rfl rfl (ev1 e104) ?_; refine (rtext_calls tx HTX.out w').mono ?_; rintro e w2 ⟨v2, rfl, hR, hB⟩; refine ⟨_, rfl, ?_⟩; refine hK.out _ _ ⟨b1_, s2_, v2, s7_, m1_, m8_, uk ha.out 3 hb_ rfl rfl rfl, below_step HW.out hB, blk_below HP.out hB, fun h0_ => aT hon 2 h0_, fun _ h1_ => aT hon 2 h1_, fun _ _ => Kd.R_below HA0.out hB, fun _ _ => Kd.R_lower hR HW.out.size, fun h0_ => aF hoff 7 h0_, fun _ h1_ => aT hon 2 h1_, QX1_, fun h0_ => aF hoff 8 h0_⟩
            refine steps_cons ?_ ?_
            ·rintro b a w' ⟨b1_, s2_, s6_, s7_, m1_, m8_, ha, QHW, QHP, QHD, QHM0, QHA0, QHM1, QHA1, QP0_1, QX1_, QX8_⟩ hb_ hon hoff; refine ⟨_, rfl, fun K hK => ?_⟩; have e101 := ek ha 1 2 101 (s2_) hon; have e105 := ek ha 3 6 105 (s6_) hon; replace ha := sd ha; have HW := sd QHW; have HP := sd QHP; have HA0 := sd (QHA0 (aC hon 2) hb_); have HM1 := sd (QHM1 (aC hon 6) hb_); obtain ⟨aR, cR, hs, hcR, hCR⟩ := Kd.R_reads HM1.out; rw [hs] at e105; refine cat_step_at (Kd.int .u8) intKM wd w' wd.heap.size (by rfl) (.tmp 101) (.tmp 105) 22 5 (.int .u8 0) 1 rfl Tryd.underlying22 infoU8 rfl (by decide) (by omega) (s2_) (pr ++ [1]) (text8 tx) (aR) ((text8 tx).length) (cR) (eval_of e101) (eval_of e105) (HA0.out) (hCR) HW.out HW.out.size (by first | omega | (simp only [List.length_append, List.length_cons, List.length_nil, be8s_len]; omega)) ?_; intro v1 w1 ho hb hg hat; refine hK.out _ _ ⟨b1_, s2_, s6_, v1, m1_, m8_, uk ha.out 4 hb_ rfl rfl rfl, hb, blk_grown HP.out hg (Kd.R_ne HA0.out HP.out (by decide)), fun h0_ => aT hon 2 h0_, fun _ h1_ => aT hon 2 h1_, fun _ h1_ => aU b 7 h1_, fun _ h1_ => aU b 7 h1_, fun _ => ho, fun _ h1_ => aT hon 2 h1_, QX1_, fun h0_ => aF hoff 8 h0_⟩
            refine steps_cons ?_ ?_
            ·rintro b a w' ⟨b1_, s2_, s6_, s7_, m1_, m8_, ha, QHW, QHP, QHD, QHM0, QHA0, QHM1, QHA1, QP0_1, QX1_, QX8_⟩ hb_ hon hoff; refine ⟨_, rfl, fun K hK => ?_⟩; have e106 := ek ha 4 7 106 (s7_) hon; replace ha := sd ha; have HW := sd QHW; have HP := sd QHP; have HA1 := sd (QHA1 (aC hon 7)); refine value_ (w1 := w') (v := s7_) (by rfl) rfl ?_ ?_
             ·go_simp; (try simp only [i64_w]); try rfl
             refine hK.out _ _ ⟨b1_, s2_, s6_, s7_, m1_, (s7_), uk ha.out 5 hb_ rfl rfl rfl, QHW, QHP, fun h0_ => aT hon 2 h0_, fun _ h1_ => aT hon 2 h1_, fun _ h1_ => aT hon 7 h1_, fun _ h1_ => aT hon 7 h1_, QHA1, fun _ h1_ => aT hon 2 h1_, QX1_, fun _ => rfl⟩
            exact steps_nil
           ·rintro b a w' hall ⟨b1_, s2_, s6_, s7_, m1_, m8_, ha, QHW, QHP, QHD, QHM0, QHA0, QHM1, QHA1, QP0_1, QX1_, QX8_⟩; clear HD HP HW; have hb1_ := hall 1 (by kernel_rfl); have hb2_ := hall 2 (by kernel_rfl); have hb5_ := hall 5 (by kernel_rfl); have hb6_ := hall 6 (by kernel_rfl); have hb7_ := hall 7 (by kernel_rfl); have hb8_ := hall 8 (by kernel_rfl); subst ha; obtain rfl := QX1_ hb1_; obtain rfl := QX8_ hb8_; simp only [putSel, hb1_, hb2_, hb5_, hb6_, hb7_, hb8_, if_true, Act.put, List.setIfInBounds_toArray, List.set_cons_zero, List.set_cons_succ]; have HW := sd QHW; clear QHW; have HP := sd QHP; clear QHP; clear QHD; clear QHM0; clear QHA0; clear QHM1; have HA1 := sd (QHA1 hb7_); clear QHA1; clear QP0_1; clear hall hb1_ hb2_ hb5_ hb6_ hb7_ hb8_; go_wp2
            go_roundw
            case rel => exact ⟨j + 1, by omega, by go_num, ⟨by rw [HE3.out]; exact HA1.out⟩, HW⟩
            case measure => simp [intOf]; omega
        ·obtain rfl : j = s.length := by omega
         go_wp2_with fail; go_meet
         case rel => exact ⟨⟨by have := HOj.out; rw [List.take_length] at this; rw [HQ2.out]; exact this⟩, HWr⟩
     case rest =>
      obtain ⟨HOn, HWn⟩ := hcut; clear HO HW
      have hbn : (c2 ++ sB k s).length ≤ 130000000 := by
       have h1 := sB_le k s; rw [List.length_append]; omega
      go_wp2; go_ret; refine ⟨_, rfl, ?_, below_step HB.out HWn.out⟩; rw [HE.out]; exact Kd.R_lower HOn.out HB.out.size
end Go.Proofs.YtbplemhjhpfkgaaDoor.Wr

/-
  wire.readConstraint, wire.readAttr: one element out of bytes.
-/
import Derived.Test.YtbplemhjhpfkgaaDoorRdTool
namespace Go.Proofs.YtbplemhjhpfkgaaDoor.Wr
open Go.RowKit Go.Proofs.YtbplemhjhpfkgaaDoorW.PrintWords Go.Proofs.YtbplemhjhpfkgaaDoorW.PrintLast Go.Proofs.YtbplemhjhpfkgaaDoorW.PrintMore Go.Proofs.YtbplemhjhpfkgaaDoor.Rd
open Go.Proofs.YtbplemhjhpfkgaaDoor.Cd (Co At kCo kAt at_Co at_At nilCo nilAt)
set_option linter.unusedVariables false
set_option linter.unusedSimpArgs false
theorem keep_alloc {w w1 : World} {g : Nat} (h : KeepBut w w1 g none) (o : Obj) : KeepBut w (w1.alloc o) g none :=
  h.trans (KeepBut.of_below (below_alloc (Below.refl _ _) o) _ none) (.inl rfl)
theorem keep_new {w w1 w2 : World} {g b : Nat} (h : KeepBut w w1 g none) (k : KeepBut w1 w2 b none) (hb : w.heap.size ≤ b) : KeepBut w w2 g none :=
  ⟨by have := h.1; have := k.1; omega, fun i hi hg hr => (k.2 i (by have := h.1; omega) (by omega) (by simp)).trans (h.2 i hi hg hr)⟩
theorem put5 {W : World} {b : Nat} {t : TypeId} {z0 z1 z2 z3 z4 : Value} (h : W.heap[b]? = some (.cells #[z0, z1, z2, z3, z4] t (0, 0))) (u0 u1 u2 u3 u4 : Value) :
    KeepBut W (((((W.setCell ⟨b, 0, none⟩ u0).setCell ⟨b, 1, none⟩ u1).setCell ⟨b, 2, none⟩ u2).setCell ⟨b, 3, none⟩ u3).setCell ⟨b, 4, none⟩ u4) b none ∧ (((((W.setCell ⟨b, 0, none⟩ u0).setCell ⟨b, 1, none⟩ u1).setCell ⟨b, 2, none⟩ u2).setCell ⟨b, 3, none⟩ u3).setCell ⟨b, 4, none⟩ u4).heap[b]? = some (.cells #[u0, u1, u2, u3, u4] t (0, 0)) ∧
      ∀ w0 : World, Below w0.heap.size w0 W → w0.heap.size ≤ b → Below w0.heap.size w0 (((((W.setCell ⟨b, 0, none⟩ u0).setCell ⟨b, 1, none⟩ u1).setCell ⟨b, 2, none⟩ u2).setCell ⟨b, 3, none⟩ u3).setCell ⟨b, 4, none⟩ u4) :=
  ⟨(((((KeepBut.refl W b none).set_ 0 u0).set_ 1 u1).set_ 2 u2).set_ 3 u3).set_ 4 u4, blk_put (cs' := #[u0, u1, u2, u3, u4]) (blk_put (cs' := #[u0, u1, u2, u3, z4]) (blk_put (cs' := #[u0, u1, u2, z3, z4]) (blk_put (cs' := #[u0, u1, z2, z3, z4]) (blk_put (cs' := #[u0, z1, z2, z3, z4]) h 0 u0 rfl) 1 u1 rfl) 2 u2 rfl) 3 u3 rfl) 4 u4 rfl,
    fun w0 hB hb => below_set (below_set (below_set (below_set (below_set hB hb) hb) hb) hb) hb⟩
theorem put4 {W : World} {b : Nat} {t : TypeId} {z0 z1 z2 z3 : Value} (h : W.heap[b]? = some (.cells #[z0, z1, z2, z3] t (0, 0))) (u0 u1 u2 u3 : Value) :
    KeepBut W ((((W.setCell ⟨b, 0, none⟩ u0).setCell ⟨b, 1, none⟩ u1).setCell ⟨b, 2, none⟩ u2).setCell ⟨b, 3, none⟩ u3) b none ∧ ((((W.setCell ⟨b, 0, none⟩ u0).setCell ⟨b, 1, none⟩ u1).setCell ⟨b, 2, none⟩ u2).setCell ⟨b, 3, none⟩ u3).heap[b]? = some (.cells #[u0, u1, u2, u3] t (0, 0)) ∧
      ∀ w0 : World, Below w0.heap.size w0 W → w0.heap.size ≤ b → Below w0.heap.size w0 ((((W.setCell ⟨b, 0, none⟩ u0).setCell ⟨b, 1, none⟩ u1).setCell ⟨b, 2, none⟩ u2).setCell ⟨b, 3, none⟩ u3) :=
  ⟨((((KeepBut.refl W b none).set_ 0 u0).set_ 1 u1).set_ 2 u2).set_ 3 u3, blk_put (cs' := #[u0, u1, u2, u3]) (blk_put (cs' := #[u0, u1, u2, z3]) (blk_put (cs' := #[u0, u1, z2, z3]) (blk_put (cs' := #[u0, z1, z2, z3]) h 0 u0 rfl) 1 u1 rfl) 2 u2 rfl) 3 u3 rfl,
    fun w0 hB hb => below_set (below_set (below_set (below_set hB hb) hb) hb) hb⟩
/-- What is read of a constraint. -/
def rdCon (s : Rs) : Co × Rs :=
  if (rdB (rdT s).2).1 = 1 then (((rdT s).1, (rdB (rdT s).2).1, (rdN (rdB (rdT s).2).2).1, (rdN (rdN (rdB (rdT s).2).2).2).1, ⟨#[]⟩), (rdN (rdN (rdB (rdT s).2).2).2).2)
  else (((rdT s).1, (rdB (rdT s).2).1, 0, 0, (rdT (rdB (rdT s).2).2).1), (rdT (rdB (rdT s).2).2).2)
theorem rdCon_1 {s s1 s2 s3 s4 : Rs} {n : ByteArray} {lo hi : Int} (h1 : rdT s = (n, s1)) (h2 : rdB s1 = (1, s2)) (h3 : rdN s2 = (lo, s3)) (h4 : rdN s3 = (hi, s4)) : rdCon s = ((n, 1, lo, hi, ⟨#[]⟩), s4) := by
  simp only [rdCon, h1, h2, h3, h4, if_true]
theorem rdCon_2 {s s1 s2 s3 : Rs} {n : ByteArray} {k : Int} {t : ByteArray} (h1 : rdT s = (n, s1)) (h2 : rdB s1 = (k, s2)) (hk : k ≠ 1) (h3 : rdT s2 = (t, s3)) : rdCon s = ((n, k, 0, 0, t), s3) := by
  simp only [rdCon, h1, h2, h3, if_neg hk]
/-- What is read of an attribute. -/
def rdAtt (s : Rs) : At × Rs :=
  if (rdB (rdT s).2).1 = 1 then (((rdT s).1, true, 0, (rdT (rdB (rdT s).2).2).1), (rdT (rdB (rdT s).2).2).2)
  else (((rdT s).1, false, (rdN (rdB (rdT s).2).2).1, ⟨#[]⟩), (rdN (rdB (rdT s).2).2).2)
theorem rdAtt_1 {s s1 s2 s3 : Rs} {n : ByteArray} {t : ByteArray} (h1 : rdT s = (n, s1)) (h2 : rdB s1 = (1, s2)) (h3 : rdT s2 = (t, s3)) : rdAtt s = ((n, true, 0, t), s3) := by
  simp only [rdAtt, h1, h2, h3, if_true]
theorem rdAtt_2 {s s1 s2 s3 : Rs} {n : ByteArray} {k : Int} {m : Int} (h1 : rdT s = (n, s1)) (h2 : rdB s1 = (k, s2)) (hk : k ≠ 1) (h3 : rdN s2 = (m, s3)) : rdAtt s = ((n, false, m, ⟨#[]⟩), s3) := by
  simp only [rdAtt, h1, h2, h3, if_neg hk]
set_option maxRecDepth 100000 in
set_option maxHeartbeats 16000000 in
theorem rcon_1 {s s1 s2 s3 s4 : Rs} {n : ByteArray} {lo hi : Int} (e1 : rdT s = (n, s1)) (e2 : rdB s1 = (1, s2)) (e3 : rdN s2 = (lo, s3)) (e4 : rdN s3 = (hi, s4)) (g : Nat) (w0 w : World) (hI : IsRs w0 w g s) (hB : Below w0.heap.size w0 w) :
    Calls Tryd.prog 95 #[.pointer (some ⟨g, 0, none⟩)] w fun e w' => e = .returned (.agg #[.string n, .int .i64 1, .int .i64 lo, .int .i64 hi, .string ⟨#[]⟩]) ∧ IsRs w0 w' g s4 ∧ Below w0.heap.size w0 w' ∧ KeepBut w w' g none := by
  have hzg : w.heap.size ≠ g := by have := IsRd.lt hI; omega
  have hgw : w0.heap.size ≤ w.heap.size := hB.size
  have HNZG := Aside0.mk hzg
  have HNGZ := Aside0.mk (Ne.symm hzg)
  have HGZ := Aside0.mk hgw
  have HZ := Aside0.mk (blk_new w (.cells #[.string ⟨#[]⟩, .int .i64 0, .int .i64 0, .int .i64 0, .string ⟨#[]⟩] 44))
  have R0 := Aside0.mk (IsRd.alloc hI (.cells #[.string ⟨#[]⟩, .int .i64 0, .int .i64 0, .int .i64 0, .string ⟨#[]⟩] 44))
  have HW := Aside0.mk (below_alloc hB (.cells #[.string ⟨#[]⟩, .int .i64 0, .int .i64 0, .int .i64 0, .string ⟨#[]⟩] 44))
  have HK := Aside0.mk (keep_alloc (KeepBut.refl w g none) (.cells #[.string ⟨#[]⟩, .int .i64 0, .int .i64 0, .int .i64 0, .string ⟨#[]⟩] 44))
  have E1 := Lib.hid e1
  have E2 := Lib.hid e2
  have E3 := Lib.hid e3
  have E4 := Lib.hid e4
  clear e1 e2 e3 e4
  clear hI hB hzg hgw
  go_enter Tryd.func95, Tryd.ntmps95
  go_upto_region 1 with fail
  generalize (w.alloc (.cells #[.string ⟨#[]⟩, .int .i64 0, .int .i64 0, .int .i64 0, .string ⟨#[]⟩] 44)) = wa at *
  generalize hbz : w.heap.size = bz at *
  go_upto_region 2 with (first
    | (have hI0 := R1.out; clear R1; go_at_call 90; refine (rdB_calls E2.out g w0 _ hI0 HW.out).mono ?_; rintro e wb ⟨rfl, hI, hB2, hK⟩; have hgb := IsRd.lt hI; have hge := hB2.size; have hbb := blk_lt (KeepBut.blk hK HZ.out HNZG.out (by simp)); have HK2 := Aside0.mk (KeepBut_trans HK.out hK); have R2 := Aside0.mk (IsRd.alloc hI (.cells #[.string n, .int .i64 1, .int .i64 0, .int .i64 0, .string ⟨#[]⟩] 44)); replace HW := Aside0.mk (below_alloc hB2 (.cells #[.string n, .int .i64 1, .int .i64 0, .int .i64 0, .string ⟨#[]⟩] 44)); replace HK := Aside0.mk (keep_alloc HK2.out (.cells #[.string n, .int .i64 1, .int .i64 0, .int .i64 0, .string ⟨#[]⟩] 44)); replace HZ := Aside0.mk (blk_alloc (KeepBut.blk hK HZ.out HNZG.out (by simp)) (.cells #[.string n, .int .i64 1, .int .i64 0, .int .i64 0, .string ⟨#[]⟩] 44)); have HO := Aside0.mk (blk_new wb (.cells #[.string n, .int .i64 1, .int .i64 0, .int .i64 0, .string ⟨#[]⟩] 44)); clear hI hB2 hK hI0)
    | (have hI0 := R0.out; clear R0; go_at_call 93; refine (rdT_calls E1.out g w0 _ hI0 HW.out).mono ?_; rintro e w_R1 ⟨rfl, hI, hB2, hK⟩; have R1 := Aside0.mk hI; replace HW := Aside0.mk hB2; replace HK := Aside0.mk (KeepBut_trans HK.out hK); replace HZ := Aside0.mk (KeepBut.blk hK HZ.out HNZG.out (by simp)); clear hI hB2 hK hI0))
  generalize (wb.alloc (.cells #[.string n, .int .i64 1, .int .i64 0, .int .i64 0, .string ⟨#[]⟩] 44)) = wc at *
  have hkb := HK2.out.1
  generalize hbo : wb.heap.size = bo at *
  have HNG := Aside0.mk (show bo ≠ g by omega)
  have HNG2 := Aside0.mk (show g ≠ bo by omega)
  have HNZO := Aside0.mk (show bz ≠ bo by omega)
  have HNOZ := Aside0.mk (show bo ≠ bz by omega)
  have HGE := Aside0.mk (show w0.heap.size ≤ bo by omega)
  have HWO := Aside0.mk (show w.heap.size ≤ bo by omega)
  have HWZ := Aside0.mk (show w.heap.size ≤ bz by omega)
  clear hgb hge hbb hkb HK2
  have q0 := (blk_cell HO.out 0).trans (rfl : _ = some (Value.string n)); have f0 := blk_frozen HO.out 0; have q1 := (blk_cell HO.out 1).trans (rfl : _ = some (Value.int .i64 1)); have f1 := blk_frozen HO.out 1; have q2 := (blk_cell HO.out 2).trans (rfl : _ = some (Value.int .i64 0)); have f2 := blk_frozen HO.out 2; have q3 := (blk_cell HO.out 3).trans (rfl : _ = some (Value.int .i64 0)); have f3 := blk_frozen HO.out 3; have q4 := (blk_cell HO.out 4).trans (rfl : _ = some (Value.string ⟨#[]⟩)); have f4 := blk_frozen HO.out 4; have hl1 := blk_lt HO.out
  go_upto_region 5 with (first
    | (have hI0 := R3.out; clear R3; go_at_call 91; refine (rdN_calls E4.out g w0 _ hI0 HW.out).mono ?_; rintro e w_R4 ⟨rfl, hI, hB2, hK⟩; have R4 := Aside0.mk hI; replace HW := Aside0.mk hB2; replace HK := Aside0.mk (KeepBut_trans HK.out hK); replace HZ := Aside0.mk (KeepBut.blk hK HZ.out HNZG.out (by simp)); replace HO := Aside0.mk (KeepBut.blk hK HO.out HNG.out (by simp)); have q0 := (blk_cell HO.out 0).trans (rfl : _ = some (Value.string n)); have f0 := blk_frozen HO.out 0; have q1 := (blk_cell HO.out 1).trans (rfl : _ = some (Value.int .i64 1)); have f1 := blk_frozen HO.out 1; have q2 := (blk_cell HO.out 2).trans (rfl : _ = some (Value.int .i64 0)); have f2 := blk_frozen HO.out 2; have q3 := (blk_cell HO.out 3).trans (rfl : _ = some (Value.int .i64 0)); have f3 := blk_frozen HO.out 3; have q4 := (blk_cell HO.out 4).trans (rfl : _ = some (Value.string ⟨#[]⟩)); have f4 := blk_frozen HO.out 4; have hl1 := blk_lt HO.out; clear hI hB2 hK hI0)
    | (have hI0 := R2.out; clear R2; go_at_call 91; refine (rdN_calls E3.out g w0 _ hI0 HW.out).mono ?_; rintro e w_R3 ⟨rfl, hI, hB2, hK⟩; have R3 := Aside0.mk hI; replace HW := Aside0.mk hB2; replace HK := Aside0.mk (KeepBut_trans HK.out hK); replace HZ := Aside0.mk (KeepBut.blk hK HZ.out HNZG.out (by simp)); replace HO := Aside0.mk (KeepBut.blk hK HO.out HNG.out (by simp)); have q0 := (blk_cell HO.out 0).trans (rfl : _ = some (Value.string n)); have f0 := blk_frozen HO.out 0; have q1 := (blk_cell HO.out 1).trans (rfl : _ = some (Value.int .i64 1)); have f1 := blk_frozen HO.out 1; have q2 := (blk_cell HO.out 2).trans (rfl : _ = some (Value.int .i64 0)); have f2 := blk_frozen HO.out 2; have q3 := (blk_cell HO.out 3).trans (rfl : _ = some (Value.int .i64 0)); have f3 := blk_frozen HO.out 3; have q4 := (blk_cell HO.out 4).trans (rfl : _ = some (Value.string ⟨#[]⟩)); have f4 := blk_frozen HO.out 4; have hl1 := blk_lt HO.out; clear hI hB2 hK hI0))
  have hkS : KeepBut w_R4 ((w_R4.setCell ⟨bo, 2, none⟩ (.int .i64 lo)).setCell ⟨bo, 3, none⟩ (.int .i64 hi)) bo none := (KeepBut.set_ (KeepBut.set_ (KeepBut.refl w_R4 bo none) 2 (.int .i64 lo)) 3 (.int .i64 hi))
  replace R4 := Aside0.mk (IsRd.keep R4.out hkS HNG2.out)
  replace HZ := Aside0.mk (KeepBut.blk hkS HZ.out HNZO.out (by simp))
  replace HK := Aside0.mk (keep_new HK.out hkS HWO.out)
  replace HW := Aside0.mk (show Below w0.heap.size w0 ((w_R4.setCell ⟨bo, 2, none⟩ (.int .i64 lo)).setCell ⟨bo, 3, none⟩ (.int .i64 hi)) from (below_set (below_set HW.out HGE.out) HGE.out))
  replace HO := Aside0.mk (show ((w_R4.setCell ⟨bo, 2, none⟩ (.int .i64 lo)).setCell ⟨bo, 3, none⟩ (.int .i64 hi)).heap[bo]? = some (.cells #[.string n, .int .i64 1, .int .i64 lo, .int .i64 hi, .string ⟨#[]⟩] 44 (0, 0)) from (blk_put (cs' := #[.string n, .int .i64 1, .int .i64 lo, .int .i64 hi, .string ⟨#[]⟩]) (blk_put (cs' := #[.string n, .int .i64 1, .int .i64 lo, .int .i64 0, .string ⟨#[]⟩]) HO.out 2 (.int .i64 lo) rfl) 3 (.int .i64 hi) rfl))
  clear hkS
  generalize (w_R4.setCell ⟨bo, 2, none⟩ (.int .i64 lo)).setCell ⟨bo, 3, none⟩ (.int .i64 hi) = wS0 at *
  clear q0 f0 q1 f1 q2 f2 q3 f3 q4 f4 hl1
  have q0 := (blk_cell HO.out 0).trans (rfl : _ = some (Value.string n)); have f0 := blk_frozen HO.out 0; have q1 := (blk_cell HO.out 1).trans (rfl : _ = some (Value.int .i64 1)); have f1 := blk_frozen HO.out 1; have q2 := (blk_cell HO.out 2).trans (rfl : _ = some (Value.int .i64 lo)); have f2 := blk_frozen HO.out 2; have q3 := (blk_cell HO.out 3).trans (rfl : _ = some (Value.int .i64 hi)); have f3 := blk_frozen HO.out 3; have q4 := (blk_cell HO.out 4).trans (rfl : _ = some (Value.string ⟨#[]⟩)); have f4 := blk_frozen HO.out 4; have z0 := (blk_cell HZ.out 0).trans (rfl : _ = some (Value.string ⟨#[]⟩)); have y0 := blk_frozen HZ.out 0; have z1 := (blk_cell HZ.out 1).trans (rfl : _ = some (Value.int .i64 0)); have y1 := blk_frozen HZ.out 1; have z2 := (blk_cell HZ.out 2).trans (rfl : _ = some (Value.int .i64 0)); have y2 := blk_frozen HZ.out 2; have z3 := (blk_cell HZ.out 3).trans (rfl : _ = some (Value.int .i64 0)); have y3 := blk_frozen HZ.out 3; have z4 := (blk_cell HZ.out 4).trans (rfl : _ = some (Value.string ⟨#[]⟩)); have y4 := blk_frozen HZ.out 4; have hl1 := blk_lt HO.out; have hl2 := blk_lt HZ.out
  obtain ⟨hk9, hb9, hw9⟩ := put5 HZ.out (.string n) (.int .i64 1) (.int .i64 lo) (.int .i64 hi) (.string ⟨#[]⟩)
  have RE := Aside0.mk (IsRd.keep R4.out hk9 HNGZ.out)
  have KE := Aside0.mk (keep_new HK.out hk9 HWZ.out)
  have WE := Aside0.mk (hw9 w0 HW.out HGZ.out)
  have ZE := Aside0.mk hb9
  clear hk9 hb9 hw9 R4 HK HW
  go_wp2
  generalize ((((wS0.setCell ⟨bz, 0, none⟩ (.string n)).setCell ⟨bz, 1, none⟩ (.int .i64 1)).setCell ⟨bz, 2, none⟩ (.int .i64 lo)).setCell ⟨bz, 3, none⟩ (.int .i64 hi)).setCell ⟨bz, 4, none⟩ (.string ⟨#[]⟩) = wE at RE KE WE ZE ⊢
  clear q0 f0 z0 y0 q1 f1 z1 y1 q2 f2 z2 y2 q3 f3 z3 y3 q4 f4 z4 y4 hl1 hl2 HO HZ
  have q0 := (blk_cell ZE.out 0).trans (rfl : _ = some (Value.string n)); have q1 := (blk_cell ZE.out 1).trans (rfl : _ = some (Value.int .i64 1)); have q2 := (blk_cell ZE.out 2).trans (rfl : _ = some (Value.int .i64 lo)); have q3 := (blk_cell ZE.out 3).trans (rfl : _ = some (Value.int .i64 hi)); have q4 := (blk_cell ZE.out 4).trans (rfl : _ = some (Value.string ⟨#[]⟩))
  refine bodyPost_ret (v := .agg #[.string n, .int .i64 1, .int .i64 lo, .int .i64 hi, .string ⟨#[]⟩]) (by simp [results, Tryd.results95, go_sem, q0, q1, q2, q3, q4]) rfl ⟨rfl, RE.out, WE.out, KE.out⟩
set_option maxRecDepth 100000 in
set_option maxHeartbeats 16000000 in
theorem rcon_2 {s s1 s2 s3 : Rs} {n : ByteArray} {k : Int} {x : ByteArray} (e1 : rdT s = (n, s1)) (e2 : rdB s1 = (k, s2)) (hk : k ≠ 1) (e3 : rdT s2 = (x, s3)) (g : Nat) (w0 w : World) (hI : IsRs w0 w g s) (hB : Below w0.heap.size w0 w) :
    Calls Tryd.prog 95 #[.pointer (some ⟨g, 0, none⟩)] w fun e w' => e = .returned (.agg #[.string n, .int .i64 k, .int .i64 0, .int .i64 0, .string x]) ∧ IsRs w0 w' g s3 ∧ Below w0.heap.size w0 w' ∧ KeepBut w w' g none := by
  have hzg : w.heap.size ≠ g := by have := IsRd.lt hI; omega
  have hgw : w0.heap.size ≤ w.heap.size := hB.size
  have HNZG := Aside0.mk hzg
  have HNGZ := Aside0.mk (Ne.symm hzg)
  have HGZ := Aside0.mk hgw
  have HZ := Aside0.mk (blk_new w (.cells #[.string ⟨#[]⟩, .int .i64 0, .int .i64 0, .int .i64 0, .string ⟨#[]⟩] 44))
  have R0 := Aside0.mk (IsRd.alloc hI (.cells #[.string ⟨#[]⟩, .int .i64 0, .int .i64 0, .int .i64 0, .string ⟨#[]⟩] 44))
  have HW := Aside0.mk (below_alloc hB (.cells #[.string ⟨#[]⟩, .int .i64 0, .int .i64 0, .int .i64 0, .string ⟨#[]⟩] 44))
  have HK := Aside0.mk (keep_alloc (KeepBut.refl w g none) (.cells #[.string ⟨#[]⟩, .int .i64 0, .int .i64 0, .int .i64 0, .string ⟨#[]⟩] 44))
  have hbk := rdB_range e2 (rdT_byt e1 hI.1)
  have hwk : IntKind.i64.wrap k = k := Go.IntWalk.i64_in _ (by omega)
  clear hbk
  have hk1 : (k == 1) = false := by simp [hk]
  clear hk
  have E1 := Lib.hid e1
  have E2 := Lib.hid e2
  have E3 := Lib.hid e3
  clear e1 e2 e3
  clear hI hB hzg hgw
  go_enter Tryd.func95, Tryd.ntmps95
  go_upto_region 1 with fail
  generalize (w.alloc (.cells #[.string ⟨#[]⟩, .int .i64 0, .int .i64 0, .int .i64 0, .string ⟨#[]⟩] 44)) = wa at *
  generalize hbz : w.heap.size = bz at *
  go_upto_region 2 with (first
    | (have hI0 := R1.out; clear R1; go_at_call 90; refine (rdB_calls E2.out g w0 _ hI0 HW.out).mono ?_; rintro e wb ⟨rfl, hI, hB2, hK⟩; have hgb := IsRd.lt hI; have hge := hB2.size; have hbb := blk_lt (KeepBut.blk hK HZ.out HNZG.out (by simp)); have HK2 := Aside0.mk (KeepBut_trans HK.out hK); have R2 := Aside0.mk (IsRd.alloc hI (.cells #[.string n, .int .i64 k, .int .i64 0, .int .i64 0, .string ⟨#[]⟩] 44)); replace HW := Aside0.mk (below_alloc hB2 (.cells #[.string n, .int .i64 k, .int .i64 0, .int .i64 0, .string ⟨#[]⟩] 44)); replace HK := Aside0.mk (keep_alloc HK2.out (.cells #[.string n, .int .i64 k, .int .i64 0, .int .i64 0, .string ⟨#[]⟩] 44)); replace HZ := Aside0.mk (blk_alloc (KeepBut.blk hK HZ.out HNZG.out (by simp)) (.cells #[.string n, .int .i64 k, .int .i64 0, .int .i64 0, .string ⟨#[]⟩] 44)); have HO := Aside0.mk (blk_new wb (.cells #[.string n, .int .i64 k, .int .i64 0, .int .i64 0, .string ⟨#[]⟩] 44)); clear hI hB2 hK hI0)
    | (have hI0 := R0.out; clear R0; go_at_call 93; refine (rdT_calls E1.out g w0 _ hI0 HW.out).mono ?_; rintro e w_R1 ⟨rfl, hI, hB2, hK⟩; have R1 := Aside0.mk hI; replace HW := Aside0.mk hB2; replace HK := Aside0.mk (KeepBut_trans HK.out hK); replace HZ := Aside0.mk (KeepBut.blk hK HZ.out HNZG.out (by simp)); clear hI hB2 hK hI0))
  generalize (wb.alloc (.cells #[.string n, .int .i64 k, .int .i64 0, .int .i64 0, .string ⟨#[]⟩] 44)) = wc at *
  have hkb := HK2.out.1
  generalize hbo : wb.heap.size = bo at *
  have HNG := Aside0.mk (show bo ≠ g by omega)
  have HNG2 := Aside0.mk (show g ≠ bo by omega)
  have HNZO := Aside0.mk (show bz ≠ bo by omega)
  have HNOZ := Aside0.mk (show bo ≠ bz by omega)
  have HGE := Aside0.mk (show w0.heap.size ≤ bo by omega)
  have HWO := Aside0.mk (show w.heap.size ≤ bo by omega)
  have HWZ := Aside0.mk (show w.heap.size ≤ bz by omega)
  clear hgb hge hbb hkb HK2
  have q0 := (blk_cell HO.out 0).trans (rfl : _ = some (Value.string n)); have f0 := blk_frozen HO.out 0; have q1 := (blk_cell HO.out 1).trans (rfl : _ = some (Value.int .i64 k)); have f1 := blk_frozen HO.out 1; have q2 := (blk_cell HO.out 2).trans (rfl : _ = some (Value.int .i64 0)); have f2 := blk_frozen HO.out 2; have q3 := (blk_cell HO.out 3).trans (rfl : _ = some (Value.int .i64 0)); have f3 := blk_frozen HO.out 3; have q4 := (blk_cell HO.out 4).trans (rfl : _ = some (Value.string ⟨#[]⟩)); have f4 := blk_frozen HO.out 4; have hl1 := blk_lt HO.out
  go_upto_region 5 with (first
    | (have hI0 := R2.out; clear R2; go_at_call 93; refine (rdT_calls E3.out g w0 _ hI0 HW.out).mono ?_; rintro e w_R3 ⟨rfl, hI, hB2, hK⟩; have R3 := Aside0.mk hI; replace HW := Aside0.mk hB2; replace HK := Aside0.mk (KeepBut_trans HK.out hK); replace HZ := Aside0.mk (KeepBut.blk hK HZ.out HNZG.out (by simp)); replace HO := Aside0.mk (KeepBut.blk hK HO.out HNG.out (by simp)); have q0 := (blk_cell HO.out 0).trans (rfl : _ = some (Value.string n)); have f0 := blk_frozen HO.out 0; have q1 := (blk_cell HO.out 1).trans (rfl : _ = some (Value.int .i64 k)); have f1 := blk_frozen HO.out 1; have q2 := (blk_cell HO.out 2).trans (rfl : _ = some (Value.int .i64 0)); have f2 := blk_frozen HO.out 2; have q3 := (blk_cell HO.out 3).trans (rfl : _ = some (Value.int .i64 0)); have f3 := blk_frozen HO.out 3; have q4 := (blk_cell HO.out 4).trans (rfl : _ = some (Value.string ⟨#[]⟩)); have f4 := blk_frozen HO.out 4; have hl1 := blk_lt HO.out; clear hI hB2 hK hI0))
  have hkS : KeepBut w_R3 (w_R3.setCell ⟨bo, 4, none⟩ (.string x)) bo none := (KeepBut.set_ (KeepBut.refl w_R3 bo none) 4 (.string x))
  replace R3 := Aside0.mk (IsRd.keep R3.out hkS HNG2.out)
  replace HZ := Aside0.mk (KeepBut.blk hkS HZ.out HNZO.out (by simp))
  replace HK := Aside0.mk (keep_new HK.out hkS HWO.out)
  replace HW := Aside0.mk (show Below w0.heap.size w0 (w_R3.setCell ⟨bo, 4, none⟩ (.string x)) from (below_set HW.out HGE.out))
  replace HO := Aside0.mk (show (w_R3.setCell ⟨bo, 4, none⟩ (.string x)).heap[bo]? = some (.cells #[.string n, .int .i64 k, .int .i64 0, .int .i64 0, .string x] 44 (0, 0)) from (blk_put (cs' := #[.string n, .int .i64 k, .int .i64 0, .int .i64 0, .string x]) HO.out 4 (.string x) rfl))
  clear hkS
  generalize w_R3.setCell ⟨bo, 4, none⟩ (.string x) = wS0 at *
  clear q0 f0 q1 f1 q2 f2 q3 f3 q4 f4 hl1
  have q0 := (blk_cell HO.out 0).trans (rfl : _ = some (Value.string n)); have f0 := blk_frozen HO.out 0; have q1 := (blk_cell HO.out 1).trans (rfl : _ = some (Value.int .i64 k)); have f1 := blk_frozen HO.out 1; have q2 := (blk_cell HO.out 2).trans (rfl : _ = some (Value.int .i64 0)); have f2 := blk_frozen HO.out 2; have q3 := (blk_cell HO.out 3).trans (rfl : _ = some (Value.int .i64 0)); have f3 := blk_frozen HO.out 3; have q4 := (blk_cell HO.out 4).trans (rfl : _ = some (Value.string x)); have f4 := blk_frozen HO.out 4; have z0 := (blk_cell HZ.out 0).trans (rfl : _ = some (Value.string ⟨#[]⟩)); have y0 := blk_frozen HZ.out 0; have z1 := (blk_cell HZ.out 1).trans (rfl : _ = some (Value.int .i64 0)); have y1 := blk_frozen HZ.out 1; have z2 := (blk_cell HZ.out 2).trans (rfl : _ = some (Value.int .i64 0)); have y2 := blk_frozen HZ.out 2; have z3 := (blk_cell HZ.out 3).trans (rfl : _ = some (Value.int .i64 0)); have y3 := blk_frozen HZ.out 3; have z4 := (blk_cell HZ.out 4).trans (rfl : _ = some (Value.string ⟨#[]⟩)); have y4 := blk_frozen HZ.out 4; have hl1 := blk_lt HO.out; have hl2 := blk_lt HZ.out
  obtain ⟨hk9, hb9, hw9⟩ := put5 HZ.out (.string n) (.int .i64 k) (.int .i64 0) (.int .i64 0) (.string x)
  have RE := Aside0.mk (IsRd.keep R3.out hk9 HNGZ.out)
  have KE := Aside0.mk (keep_new HK.out hk9 HWZ.out)
  have WE := Aside0.mk (hw9 w0 HW.out HGZ.out)
  have ZE := Aside0.mk hb9
  clear hk9 hb9 hw9 R3 HK HW
  go_wp2
  generalize ((((wS0.setCell ⟨bz, 0, none⟩ (.string n)).setCell ⟨bz, 1, none⟩ (.int .i64 k)).setCell ⟨bz, 2, none⟩ (.int .i64 0)).setCell ⟨bz, 3, none⟩ (.int .i64 0)).setCell ⟨bz, 4, none⟩ (.string x) = wE at RE KE WE ZE ⊢
  clear q0 f0 z0 y0 q1 f1 z1 y1 q2 f2 z2 y2 q3 f3 z3 y3 q4 f4 z4 y4 hl1 hl2 HO HZ
  have q0 := (blk_cell ZE.out 0).trans (rfl : _ = some (Value.string n)); have q1 := (blk_cell ZE.out 1).trans (rfl : _ = some (Value.int .i64 k)); have q2 := (blk_cell ZE.out 2).trans (rfl : _ = some (Value.int .i64 0)); have q3 := (blk_cell ZE.out 3).trans (rfl : _ = some (Value.int .i64 0)); have q4 := (blk_cell ZE.out 4).trans (rfl : _ = some (Value.string x))
  refine bodyPost_ret (v := .agg #[.string n, .int .i64 k, .int .i64 0, .int .i64 0, .string x]) (by simp [results, Tryd.results95, go_sem, q0, q1, q2, q3, q4]) rfl ⟨rfl, RE.out, WE.out, KE.out⟩
set_option maxRecDepth 100000 in
set_option maxHeartbeats 16000000 in
theorem ratt_1 {s s1 s2 s3 : Rs} {n : ByteArray} {x : ByteArray} (e1 : rdT s = (n, s1)) (e2 : rdB s1 = (1, s2)) (e3 : rdT s2 = (x, s3)) (g : Nat) (w0 w : World) (hI : IsRs w0 w g s) (hB : Below w0.heap.size w0 w) :
    Calls Tryd.prog 96 #[.pointer (some ⟨g, 0, none⟩)] w fun e w' => e = .returned (.agg #[.string n, .bool true, .int .i64 0, .string x]) ∧ IsRs w0 w' g s3 ∧ Below w0.heap.size w0 w' ∧ KeepBut w w' g none := by
  have hzg : w.heap.size ≠ g := by have := IsRd.lt hI; omega
  have hgw : w0.heap.size ≤ w.heap.size := hB.size
  have HNZG := Aside0.mk hzg
  have HNGZ := Aside0.mk (Ne.symm hzg)
  have HGZ := Aside0.mk hgw
  have HZ := Aside0.mk (blk_new w (.cells #[.string ⟨#[]⟩, .bool false, .int .i64 0, .string ⟨#[]⟩] 59))
  have R0 := Aside0.mk (IsRd.alloc hI (.cells #[.string ⟨#[]⟩, .bool false, .int .i64 0, .string ⟨#[]⟩] 59))
  have HW := Aside0.mk (below_alloc hB (.cells #[.string ⟨#[]⟩, .bool false, .int .i64 0, .string ⟨#[]⟩] 59))
  have HK := Aside0.mk (keep_alloc (KeepBut.refl w g none) (.cells #[.string ⟨#[]⟩, .bool false, .int .i64 0, .string ⟨#[]⟩] 59))
  have E1 := Lib.hid e1
  have E2 := Lib.hid e2
  have E3 := Lib.hid e3
  clear e1 e2 e3
  clear hI hB hzg hgw
  go_enter Tryd.func96, Tryd.ntmps96
  go_upto_region 1 with fail
  generalize (w.alloc (.cells #[.string ⟨#[]⟩, .bool false, .int .i64 0, .string ⟨#[]⟩] 59)) = wa at *
  generalize hbz : w.heap.size = bz at *
  go_upto_region 2 with (first
    | (have hI0 := R0.out; clear R0; go_at_call 93; refine (rdT_calls E1.out g w0 _ hI0 HW.out).mono ?_; rintro e wb ⟨rfl, hI, hB2, hK⟩; have hgb := IsRd.lt hI; have hge := hB2.size; have hbb := blk_lt (KeepBut.blk hK HZ.out HNZG.out (by simp)); have HK2 := Aside0.mk (KeepBut_trans HK.out hK); have R1 := Aside0.mk (IsRd.alloc hI (.cells #[.string n, .bool false, .int .i64 0, .string ⟨#[]⟩] 59)); replace HW := Aside0.mk (below_alloc hB2 (.cells #[.string n, .bool false, .int .i64 0, .string ⟨#[]⟩] 59)); replace HK := Aside0.mk (keep_alloc HK2.out (.cells #[.string n, .bool false, .int .i64 0, .string ⟨#[]⟩] 59)); replace HZ := Aside0.mk (blk_alloc (KeepBut.blk hK HZ.out HNZG.out (by simp)) (.cells #[.string n, .bool false, .int .i64 0, .string ⟨#[]⟩] 59)); have HO := Aside0.mk (blk_new wb (.cells #[.string n, .bool false, .int .i64 0, .string ⟨#[]⟩] 59)); clear hI hB2 hK hI0))
  generalize (wb.alloc (.cells #[.string n, .bool false, .int .i64 0, .string ⟨#[]⟩] 59)) = wc at *
  have hkb := HK2.out.1
  generalize hbo : wb.heap.size = bo at *
  have HNG := Aside0.mk (show bo ≠ g by omega)
  have HNG2 := Aside0.mk (show g ≠ bo by omega)
  have HNZO := Aside0.mk (show bz ≠ bo by omega)
  have HNOZ := Aside0.mk (show bo ≠ bz by omega)
  have HGE := Aside0.mk (show w0.heap.size ≤ bo by omega)
  have HWO := Aside0.mk (show w.heap.size ≤ bo by omega)
  have HWZ := Aside0.mk (show w.heap.size ≤ bz by omega)
  clear hgb hge hbb hkb HK2
  have q0 := (blk_cell HO.out 0).trans (rfl : _ = some (Value.string n)); have f0 := blk_frozen HO.out 0; have q1 := (blk_cell HO.out 1).trans (rfl : _ = some (Value.bool false)); have f1 := blk_frozen HO.out 1; have q2 := (blk_cell HO.out 2).trans (rfl : _ = some (Value.int .i64 0)); have f2 := blk_frozen HO.out 2; have q3 := (blk_cell HO.out 3).trans (rfl : _ = some (Value.string ⟨#[]⟩)); have f3 := blk_frozen HO.out 3; have hl1 := blk_lt HO.out
  go_upto_region 3 with (first
    | (have hI0 := R1.out; clear R1; go_at_call 90; refine (rdB_calls E2.out g w0 _ hI0 HW.out).mono ?_; rintro e w_R2 ⟨rfl, hI, hB2, hK⟩; have R2 := Aside0.mk hI; replace HW := Aside0.mk hB2; replace HK := Aside0.mk (KeepBut_trans HK.out hK); replace HZ := Aside0.mk (KeepBut.blk hK HZ.out HNZG.out (by simp)); replace HO := Aside0.mk (KeepBut.blk hK HO.out HNG.out (by simp)); have q0 := (blk_cell HO.out 0).trans (rfl : _ = some (Value.string n)); have f0 := blk_frozen HO.out 0; have q1 := (blk_cell HO.out 1).trans (rfl : _ = some (Value.bool false)); have f1 := blk_frozen HO.out 1; have q2 := (blk_cell HO.out 2).trans (rfl : _ = some (Value.int .i64 0)); have f2 := blk_frozen HO.out 2; have q3 := (blk_cell HO.out 3).trans (rfl : _ = some (Value.string ⟨#[]⟩)); have f3 := blk_frozen HO.out 3; have hl1 := blk_lt HO.out; clear hI hB2 hK hI0))
  have hkS : KeepBut w_R2 (w_R2.setCell ⟨bo, 1, none⟩ (.bool true)) bo none := (KeepBut.set_ (KeepBut.refl w_R2 bo none) 1 (.bool true))
  replace R2 := Aside0.mk (IsRd.keep R2.out hkS HNG2.out)
  replace HZ := Aside0.mk (KeepBut.blk hkS HZ.out HNZO.out (by simp))
  replace HK := Aside0.mk (keep_new HK.out hkS HWO.out)
  replace HW := Aside0.mk (show Below w0.heap.size w0 (w_R2.setCell ⟨bo, 1, none⟩ (.bool true)) from (below_set HW.out HGE.out))
  replace HO := Aside0.mk (show (w_R2.setCell ⟨bo, 1, none⟩ (.bool true)).heap[bo]? = some (.cells #[.string n, .bool true, .int .i64 0, .string ⟨#[]⟩] 59 (0, 0)) from (blk_put (cs' := #[.string n, .bool true, .int .i64 0, .string ⟨#[]⟩]) HO.out 1 (.bool true) rfl))
  clear hkS
  generalize w_R2.setCell ⟨bo, 1, none⟩ (.bool true) = wS0 at *
  clear q0 f0 q1 f1 q2 f2 q3 f3 hl1
  have q0 := (blk_cell HO.out 0).trans (rfl : _ = some (Value.string n)); have f0 := blk_frozen HO.out 0; have q1 := (blk_cell HO.out 1).trans (rfl : _ = some (Value.bool true)); have f1 := blk_frozen HO.out 1; have q2 := (blk_cell HO.out 2).trans (rfl : _ = some (Value.int .i64 0)); have f2 := blk_frozen HO.out 2; have q3 := (blk_cell HO.out 3).trans (rfl : _ = some (Value.string ⟨#[]⟩)); have f3 := blk_frozen HO.out 3; have hl1 := blk_lt HO.out
  go_upto_region 6 with (first
    | (have hI0 := R2.out; clear R2; go_at_call 93; refine (rdT_calls E3.out g w0 _ hI0 HW.out).mono ?_; rintro e w_R3 ⟨rfl, hI, hB2, hK⟩; have R3 := Aside0.mk hI; replace HW := Aside0.mk hB2; replace HK := Aside0.mk (KeepBut_trans HK.out hK); replace HZ := Aside0.mk (KeepBut.blk hK HZ.out HNZG.out (by simp)); replace HO := Aside0.mk (KeepBut.blk hK HO.out HNG.out (by simp)); have q0 := (blk_cell HO.out 0).trans (rfl : _ = some (Value.string n)); have f0 := blk_frozen HO.out 0; have q1 := (blk_cell HO.out 1).trans (rfl : _ = some (Value.bool true)); have f1 := blk_frozen HO.out 1; have q2 := (blk_cell HO.out 2).trans (rfl : _ = some (Value.int .i64 0)); have f2 := blk_frozen HO.out 2; have q3 := (blk_cell HO.out 3).trans (rfl : _ = some (Value.string ⟨#[]⟩)); have f3 := blk_frozen HO.out 3; have hl1 := blk_lt HO.out; clear hI hB2 hK hI0))
  have hkS : KeepBut w_R3 (w_R3.setCell ⟨bo, 3, none⟩ (.string x)) bo none := (KeepBut.set_ (KeepBut.refl w_R3 bo none) 3 (.string x))
  replace R3 := Aside0.mk (IsRd.keep R3.out hkS HNG2.out)
  replace HZ := Aside0.mk (KeepBut.blk hkS HZ.out HNZO.out (by simp))
  replace HK := Aside0.mk (keep_new HK.out hkS HWO.out)
  replace HW := Aside0.mk (show Below w0.heap.size w0 (w_R3.setCell ⟨bo, 3, none⟩ (.string x)) from (below_set HW.out HGE.out))
  replace HO := Aside0.mk (show (w_R3.setCell ⟨bo, 3, none⟩ (.string x)).heap[bo]? = some (.cells #[.string n, .bool true, .int .i64 0, .string x] 59 (0, 0)) from (blk_put (cs' := #[.string n, .bool true, .int .i64 0, .string x]) HO.out 3 (.string x) rfl))
  clear hkS
  generalize w_R3.setCell ⟨bo, 3, none⟩ (.string x) = wS1 at *
  clear q0 f0 q1 f1 q2 f2 q3 f3 hl1
  have q0 := (blk_cell HO.out 0).trans (rfl : _ = some (Value.string n)); have f0 := blk_frozen HO.out 0; have q1 := (blk_cell HO.out 1).trans (rfl : _ = some (Value.bool true)); have f1 := blk_frozen HO.out 1; have q2 := (blk_cell HO.out 2).trans (rfl : _ = some (Value.int .i64 0)); have f2 := blk_frozen HO.out 2; have q3 := (blk_cell HO.out 3).trans (rfl : _ = some (Value.string x)); have f3 := blk_frozen HO.out 3; have z0 := (blk_cell HZ.out 0).trans (rfl : _ = some (Value.string ⟨#[]⟩)); have y0 := blk_frozen HZ.out 0; have z1 := (blk_cell HZ.out 1).trans (rfl : _ = some (Value.bool false)); have y1 := blk_frozen HZ.out 1; have z2 := (blk_cell HZ.out 2).trans (rfl : _ = some (Value.int .i64 0)); have y2 := blk_frozen HZ.out 2; have z3 := (blk_cell HZ.out 3).trans (rfl : _ = some (Value.string ⟨#[]⟩)); have y3 := blk_frozen HZ.out 3; have hl1 := blk_lt HO.out; have hl2 := blk_lt HZ.out
  obtain ⟨hk9, hb9, hw9⟩ := put4 HZ.out (.string n) (.bool true) (.int .i64 0) (.string x)
  have RE := Aside0.mk (IsRd.keep R3.out hk9 HNGZ.out)
  have KE := Aside0.mk (keep_new HK.out hk9 HWZ.out)
  have WE := Aside0.mk (hw9 w0 HW.out HGZ.out)
  have ZE := Aside0.mk hb9
  clear hk9 hb9 hw9 R3 HK HW
  go_wp2
  generalize (((wS1.setCell ⟨bz, 0, none⟩ (.string n)).setCell ⟨bz, 1, none⟩ (.bool true)).setCell ⟨bz, 2, none⟩ (.int .i64 0)).setCell ⟨bz, 3, none⟩ (.string x) = wE at RE KE WE ZE ⊢
  clear q0 f0 z0 y0 q1 f1 z1 y1 q2 f2 z2 y2 q3 f3 z3 y3 hl1 hl2 HO HZ
  have q0 := (blk_cell ZE.out 0).trans (rfl : _ = some (Value.string n)); have q1 := (blk_cell ZE.out 1).trans (rfl : _ = some (Value.bool true)); have q2 := (blk_cell ZE.out 2).trans (rfl : _ = some (Value.int .i64 0)); have q3 := (blk_cell ZE.out 3).trans (rfl : _ = some (Value.string x))
  refine bodyPost_ret (v := .agg #[.string n, .bool true, .int .i64 0, .string x]) (by simp [results, Tryd.results96, go_sem, q0, q1, q2, q3]) rfl ⟨rfl, RE.out, WE.out, KE.out⟩
set_option maxRecDepth 100000 in
set_option maxHeartbeats 16000000 in
theorem ratt_2 {s s1 s2 s3 : Rs} {n : ByteArray} {k m : Int} (e1 : rdT s = (n, s1)) (e2 : rdB s1 = (k, s2)) (hk : k ≠ 1) (e3 : rdN s2 = (m, s3)) (g : Nat) (w0 w : World) (hI : IsRs w0 w g s) (hB : Below w0.heap.size w0 w) :
    Calls Tryd.prog 96 #[.pointer (some ⟨g, 0, none⟩)] w fun e w' => e = .returned (.agg #[.string n, .bool false, .int .i64 m, .string ⟨#[]⟩]) ∧ IsRs w0 w' g s3 ∧ Below w0.heap.size w0 w' ∧ KeepBut w w' g none := by
  have hzg : w.heap.size ≠ g := by have := IsRd.lt hI; omega
  have hgw : w0.heap.size ≤ w.heap.size := hB.size
  have HNZG := Aside0.mk hzg
  have HNGZ := Aside0.mk (Ne.symm hzg)
  have HGZ := Aside0.mk hgw
  have HZ := Aside0.mk (blk_new w (.cells #[.string ⟨#[]⟩, .bool false, .int .i64 0, .string ⟨#[]⟩] 59))
  have R0 := Aside0.mk (IsRd.alloc hI (.cells #[.string ⟨#[]⟩, .bool false, .int .i64 0, .string ⟨#[]⟩] 59))
  have HW := Aside0.mk (below_alloc hB (.cells #[.string ⟨#[]⟩, .bool false, .int .i64 0, .string ⟨#[]⟩] 59))
  have HK := Aside0.mk (keep_alloc (KeepBut.refl w g none) (.cells #[.string ⟨#[]⟩, .bool false, .int .i64 0, .string ⟨#[]⟩] 59))
  have hk1 : (k == 1) = false := by simp [hk]
  clear hk
  have E1 := Lib.hid e1
  have E2 := Lib.hid e2
  have E3 := Lib.hid e3
  clear e1 e2 e3
  clear hI hB hzg hgw
  go_enter Tryd.func96, Tryd.ntmps96
  go_upto_region 1 with fail
  generalize (w.alloc (.cells #[.string ⟨#[]⟩, .bool false, .int .i64 0, .string ⟨#[]⟩] 59)) = wa at *
  generalize hbz : w.heap.size = bz at *
  go_upto_region 2 with (first
    | (have hI0 := R0.out; clear R0; go_at_call 93; refine (rdT_calls E1.out g w0 _ hI0 HW.out).mono ?_; rintro e wb ⟨rfl, hI, hB2, hK⟩; have hgb := IsRd.lt hI; have hge := hB2.size; have hbb := blk_lt (KeepBut.blk hK HZ.out HNZG.out (by simp)); have HK2 := Aside0.mk (KeepBut_trans HK.out hK); have R1 := Aside0.mk (IsRd.alloc hI (.cells #[.string n, .bool false, .int .i64 0, .string ⟨#[]⟩] 59)); replace HW := Aside0.mk (below_alloc hB2 (.cells #[.string n, .bool false, .int .i64 0, .string ⟨#[]⟩] 59)); replace HK := Aside0.mk (keep_alloc HK2.out (.cells #[.string n, .bool false, .int .i64 0, .string ⟨#[]⟩] 59)); replace HZ := Aside0.mk (blk_alloc (KeepBut.blk hK HZ.out HNZG.out (by simp)) (.cells #[.string n, .bool false, .int .i64 0, .string ⟨#[]⟩] 59)); have HO := Aside0.mk (blk_new wb (.cells #[.string n, .bool false, .int .i64 0, .string ⟨#[]⟩] 59)); clear hI hB2 hK hI0))
  generalize (wb.alloc (.cells #[.string n, .bool false, .int .i64 0, .string ⟨#[]⟩] 59)) = wc at *
  have hkb := HK2.out.1
  generalize hbo : wb.heap.size = bo at *
  have HNG := Aside0.mk (show bo ≠ g by omega)
  have HNG2 := Aside0.mk (show g ≠ bo by omega)
  have HNZO := Aside0.mk (show bz ≠ bo by omega)
  have HNOZ := Aside0.mk (show bo ≠ bz by omega)
  have HGE := Aside0.mk (show w0.heap.size ≤ bo by omega)
  have HWO := Aside0.mk (show w.heap.size ≤ bo by omega)
  have HWZ := Aside0.mk (show w.heap.size ≤ bz by omega)
  clear hgb hge hbb hkb HK2
  have q0 := (blk_cell HO.out 0).trans (rfl : _ = some (Value.string n)); have f0 := blk_frozen HO.out 0; have q1 := (blk_cell HO.out 1).trans (rfl : _ = some (Value.bool false)); have f1 := blk_frozen HO.out 1; have q2 := (blk_cell HO.out 2).trans (rfl : _ = some (Value.int .i64 0)); have f2 := blk_frozen HO.out 2; have q3 := (blk_cell HO.out 3).trans (rfl : _ = some (Value.string ⟨#[]⟩)); have f3 := blk_frozen HO.out 3; have hl1 := blk_lt HO.out
  go_upto_region 3 with (first
    | (have hI0 := R1.out; clear R1; go_at_call 90; refine (rdB_calls E2.out g w0 _ hI0 HW.out).mono ?_; rintro e w_R2 ⟨rfl, hI, hB2, hK⟩; have R2 := Aside0.mk hI; replace HW := Aside0.mk hB2; replace HK := Aside0.mk (KeepBut_trans HK.out hK); replace HZ := Aside0.mk (KeepBut.blk hK HZ.out HNZG.out (by simp)); replace HO := Aside0.mk (KeepBut.blk hK HO.out HNG.out (by simp)); have q0 := (blk_cell HO.out 0).trans (rfl : _ = some (Value.string n)); have f0 := blk_frozen HO.out 0; have q1 := (blk_cell HO.out 1).trans (rfl : _ = some (Value.bool false)); have f1 := blk_frozen HO.out 1; have q2 := (blk_cell HO.out 2).trans (rfl : _ = some (Value.int .i64 0)); have f2 := blk_frozen HO.out 2; have q3 := (blk_cell HO.out 3).trans (rfl : _ = some (Value.string ⟨#[]⟩)); have f3 := blk_frozen HO.out 3; have hl1 := blk_lt HO.out; clear hI hB2 hK hI0))
  have hkS : KeepBut w_R2 (w_R2.setCell ⟨bo, 1, none⟩ (.bool false)) bo none := (KeepBut.set_ (KeepBut.refl w_R2 bo none) 1 (.bool false))
  replace R2 := Aside0.mk (IsRd.keep R2.out hkS HNG2.out)
  replace HZ := Aside0.mk (KeepBut.blk hkS HZ.out HNZO.out (by simp))
  replace HK := Aside0.mk (keep_new HK.out hkS HWO.out)
  replace HW := Aside0.mk (show Below w0.heap.size w0 (w_R2.setCell ⟨bo, 1, none⟩ (.bool false)) from (below_set HW.out HGE.out))
  replace HO := Aside0.mk (show (w_R2.setCell ⟨bo, 1, none⟩ (.bool false)).heap[bo]? = some (.cells #[.string n, .bool false, .int .i64 0, .string ⟨#[]⟩] 59 (0, 0)) from (blk_put (cs' := #[.string n, .bool false, .int .i64 0, .string ⟨#[]⟩]) HO.out 1 (.bool false) rfl))
  clear hkS
  generalize w_R2.setCell ⟨bo, 1, none⟩ (.bool false) = wS0 at *
  clear q0 f0 q1 f1 q2 f2 q3 f3 hl1
  have q0 := (blk_cell HO.out 0).trans (rfl : _ = some (Value.string n)); have f0 := blk_frozen HO.out 0; have q1 := (blk_cell HO.out 1).trans (rfl : _ = some (Value.bool false)); have f1 := blk_frozen HO.out 1; have q2 := (blk_cell HO.out 2).trans (rfl : _ = some (Value.int .i64 0)); have f2 := blk_frozen HO.out 2; have q3 := (blk_cell HO.out 3).trans (rfl : _ = some (Value.string ⟨#[]⟩)); have f3 := blk_frozen HO.out 3; have hl1 := blk_lt HO.out
  go_upto_region 6 with (first
    | (have hI0 := R2.out; clear R2; go_at_call 91; refine (rdN_calls E3.out g w0 _ hI0 HW.out).mono ?_; rintro e w_R3 ⟨rfl, hI, hB2, hK⟩; have R3 := Aside0.mk hI; replace HW := Aside0.mk hB2; replace HK := Aside0.mk (KeepBut_trans HK.out hK); replace HZ := Aside0.mk (KeepBut.blk hK HZ.out HNZG.out (by simp)); replace HO := Aside0.mk (KeepBut.blk hK HO.out HNG.out (by simp)); have q0 := (blk_cell HO.out 0).trans (rfl : _ = some (Value.string n)); have f0 := blk_frozen HO.out 0; have q1 := (blk_cell HO.out 1).trans (rfl : _ = some (Value.bool false)); have f1 := blk_frozen HO.out 1; have q2 := (blk_cell HO.out 2).trans (rfl : _ = some (Value.int .i64 0)); have f2 := blk_frozen HO.out 2; have q3 := (blk_cell HO.out 3).trans (rfl : _ = some (Value.string ⟨#[]⟩)); have f3 := blk_frozen HO.out 3; have hl1 := blk_lt HO.out; clear hI hB2 hK hI0))
  have hkS : KeepBut w_R3 (w_R3.setCell ⟨bo, 2, none⟩ (.int .i64 m)) bo none := (KeepBut.set_ (KeepBut.refl w_R3 bo none) 2 (.int .i64 m))
  replace R3 := Aside0.mk (IsRd.keep R3.out hkS HNG2.out)
  replace HZ := Aside0.mk (KeepBut.blk hkS HZ.out HNZO.out (by simp))
  replace HK := Aside0.mk (keep_new HK.out hkS HWO.out)
  replace HW := Aside0.mk (show Below w0.heap.size w0 (w_R3.setCell ⟨bo, 2, none⟩ (.int .i64 m)) from (below_set HW.out HGE.out))
  replace HO := Aside0.mk (show (w_R3.setCell ⟨bo, 2, none⟩ (.int .i64 m)).heap[bo]? = some (.cells #[.string n, .bool false, .int .i64 m, .string ⟨#[]⟩] 59 (0, 0)) from (blk_put (cs' := #[.string n, .bool false, .int .i64 m, .string ⟨#[]⟩]) HO.out 2 (.int .i64 m) rfl))
  clear hkS
  generalize w_R3.setCell ⟨bo, 2, none⟩ (.int .i64 m) = wS1 at *
  clear q0 f0 q1 f1 q2 f2 q3 f3 hl1
  have q0 := (blk_cell HO.out 0).trans (rfl : _ = some (Value.string n)); have f0 := blk_frozen HO.out 0; have q1 := (blk_cell HO.out 1).trans (rfl : _ = some (Value.bool false)); have f1 := blk_frozen HO.out 1; have q2 := (blk_cell HO.out 2).trans (rfl : _ = some (Value.int .i64 m)); have f2 := blk_frozen HO.out 2; have q3 := (blk_cell HO.out 3).trans (rfl : _ = some (Value.string ⟨#[]⟩)); have f3 := blk_frozen HO.out 3; have z0 := (blk_cell HZ.out 0).trans (rfl : _ = some (Value.string ⟨#[]⟩)); have y0 := blk_frozen HZ.out 0; have z1 := (blk_cell HZ.out 1).trans (rfl : _ = some (Value.bool false)); have y1 := blk_frozen HZ.out 1; have z2 := (blk_cell HZ.out 2).trans (rfl : _ = some (Value.int .i64 0)); have y2 := blk_frozen HZ.out 2; have z3 := (blk_cell HZ.out 3).trans (rfl : _ = some (Value.string ⟨#[]⟩)); have y3 := blk_frozen HZ.out 3; have hl1 := blk_lt HO.out; have hl2 := blk_lt HZ.out
  obtain ⟨hk9, hb9, hw9⟩ := put4 HZ.out (.string n) (.bool false) (.int .i64 m) (.string ⟨#[]⟩)
  have RE := Aside0.mk (IsRd.keep R3.out hk9 HNGZ.out)
  have KE := Aside0.mk (keep_new HK.out hk9 HWZ.out)
  have WE := Aside0.mk (hw9 w0 HW.out HGZ.out)
  have ZE := Aside0.mk hb9
  clear hk9 hb9 hw9 R3 HK HW
  go_wp2
  generalize (((wS1.setCell ⟨bz, 0, none⟩ (.string n)).setCell ⟨bz, 1, none⟩ (.bool false)).setCell ⟨bz, 2, none⟩ (.int .i64 m)).setCell ⟨bz, 3, none⟩ (.string ⟨#[]⟩) = wE at RE KE WE ZE ⊢
  clear q0 f0 z0 y0 q1 f1 z1 y1 q2 f2 z2 y2 q3 f3 z3 y3 hl1 hl2 HO HZ
  have q0 := (blk_cell ZE.out 0).trans (rfl : _ = some (Value.string n)); have q1 := (blk_cell ZE.out 1).trans (rfl : _ = some (Value.bool false)); have q2 := (blk_cell ZE.out 2).trans (rfl : _ = some (Value.int .i64 m)); have q3 := (blk_cell ZE.out 3).trans (rfl : _ = some (Value.string ⟨#[]⟩))
  refine bodyPost_ret (v := .agg #[.string n, .bool false, .int .i64 m, .string ⟨#[]⟩]) (by simp [results, Tryd.results96, go_sem, q0, q1, q2, q3]) rfl ⟨rfl, RE.out, WE.out, KE.out⟩
theorem rcon_calls {s t : Rs} {x : Co} (h : rdCon s = (x, t)) (g : Nat) (w0 w : World) (hI : IsRs w0 w g s) (hB : Below w0.heap.size w0 w) :
    Calls Tryd.prog 95 #[.pointer (some ⟨g, 0, none⟩)] w fun e w' => e = .returned (.agg #[.string x.1, .int .i64 x.2.1, .int .i64 x.2.2.1, .int .i64 x.2.2.2.1, .string x.2.2.2.2]) ∧ IsRs w0 w' g t ∧ Below w0.heap.size w0 w' ∧ KeepBut w w' g none := by
  obtain ⟨n, s1, e1⟩ : ∃ x t, rdT s = (x, t) := ⟨_, _, rfl⟩
  obtain ⟨k, s2, e2⟩ : ∃ x t, rdB s1 = (x, t) := ⟨_, _, rfl⟩
  by_cases hk : k = 1
  · subst hk
    obtain ⟨lo, s3, e3⟩ : ∃ x t, rdN s2 = (x, t) := ⟨_, _, rfl⟩
    obtain ⟨hi, s4, e4⟩ : ∃ x t, rdN s3 = (x, t) := ⟨_, _, rfl⟩
    rw [rdCon_1 e1 e2 e3 e4] at h
    cases h
    exact rcon_1 e1 e2 e3 e4 g w0 w hI hB
  · obtain ⟨tx, s3, e3⟩ : ∃ x t, rdT s2 = (x, t) := ⟨_, _, rfl⟩
    rw [rdCon_2 e1 e2 hk e3] at h
    cases h
    exact rcon_2 e1 e2 hk e3 g w0 w hI hB
theorem ratt_calls {s t : Rs} {x : At} (h : rdAtt s = (x, t)) (g : Nat) (w0 w : World) (hI : IsRs w0 w g s) (hB : Below w0.heap.size w0 w) :
    Calls Tryd.prog 96 #[.pointer (some ⟨g, 0, none⟩)] w fun e w' => e = .returned (.agg #[.string x.1, .bool x.2.1, .int .i64 x.2.2.1, .string x.2.2.2]) ∧ IsRs w0 w' g t ∧ Below w0.heap.size w0 w' ∧ KeepBut w w' g none := by
  obtain ⟨n, s1, e1⟩ : ∃ x t, rdT s = (x, t) := ⟨_, _, rfl⟩
  obtain ⟨k, s2, e2⟩ : ∃ x t, rdB s1 = (x, t) := ⟨_, _, rfl⟩
  by_cases hk : k = 1
  · subst hk
    obtain ⟨tx, s3, e3⟩ : ∃ x t, rdT s2 = (x, t) := ⟨_, _, rfl⟩
    rw [rdAtt_1 e1 e2 e3] at h
    cases h
    exact ratt_1 e1 e2 e3 g w0 w hI hB
  · obtain ⟨m, s3, e3⟩ : ∃ x t, rdN s2 = (x, t) := ⟨_, _, rfl⟩
    rw [rdAtt_2 e1 e2 hk e3] at h
    cases h
    exact ratt_2 e1 e2 hk e3 g w0 w hI hB
end Go.Proofs.YtbplemhjhpfkgaaDoor.Wr

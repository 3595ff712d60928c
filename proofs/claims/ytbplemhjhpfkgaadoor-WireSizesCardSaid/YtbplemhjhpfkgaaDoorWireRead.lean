/-
  wire.read: a message read out of bytes.
-/
import Derived.Test.YtbplemhjhpfkgaaDoorWireReadOne
import Derived.Test.YtbplemhjhpfkgaaDoorWireOne
namespace Go.Proofs.YtbplemhjhpfkgaaDoor.Wr
open Go.RowKit Go.Proofs.YtbplemhjhpfkgaaDoorW.PrintWords Go.Proofs.YtbplemhjhpfkgaaDoorW.PrintLast Go.Proofs.YtbplemhjhpfkgaaDoorW.PrintMore Go.Proofs.YtbplemhjhpfkgaaDoor.Rd
open Go.Proofs.YtbplemhjhpfkgaaDoor.Cd (Co At kCo kAt at_Co at_At nilCo nilAt flat flatKM)
set_option linter.unusedVariables false
set_option linter.unusedSimpArgs false
theorem co_atW : ∀ q, q ∈ 44 :: kCo.E → q ≠ 59 := by intro q hq; simp [kCo, flat] at hq; subst hq; decide
/-- What is read of a message's own ID, its predicate, its attributes. -/
def rdOwn (k : Int) (s : Rs) : (Int × Int) × Rs := if asksI k = true then rdI s else ((0, 0), s)
def rdPs (k : Int) (s : Rs) : List Co × Rs := if asksP k = true then rdMany rdCon (rdB s).1.toNat (rdB s).2 [] else ([], s)
def rdSs (k : Int) (s : Rs) : List At × Rs := if asksS k = true then rdMany rdAtt (rdB s).1.toNat (rdB s).2 [] else ([], s)
/-- The whole message. -/
def readM (s : Rs) : MsgD × Rs :=
  let a := rdB s; let b := rdI a.2; let c := rdOwn a.1 b.2; let p := rdPs a.1 c.2; let q := rdSs a.1 p.2
  (⟨a.1, b.1.1, b.1.2, c.1.1, c.1.2, p.1, q.1⟩, q.2)
theorem readM_of {s s1 s2 s3 s4 s5 : Rs} {k c q i n : Int} {p : List Co} {u : List At} (h1 : rdB s = (k, s1)) (h2 : rdI s1 = ((c, q), s2)) (h3 : rdOwn k s2 = ((i, n), s3)) (h4 : rdPs k s3 = (p, s4)) (h5 : rdSs k s4 = (u, s5)) : readM s = (⟨k, c, q, i, n, p, u⟩, s5) := by
  simp only [readM, h1, h2, h3, h4, h5]
theorem put7 {W : World} {b : Nat} {t : TypeId} {z0 z1 z2 z3 z4 z5 z6 : Value} (h : W.heap[b]? = some (.cells #[z0, z1, z2, z3, z4, z5, z6] t (0, 0))) (u0 u1 u2 u3 u4 u5 u6 : Value) :
    KeepBut W (((((((W.setCell ⟨b, 0, none⟩ u0).setCell ⟨b, 1, none⟩ u1).setCell ⟨b, 2, none⟩ u2).setCell ⟨b, 3, none⟩ u3).setCell ⟨b, 4, none⟩ u4).setCell ⟨b, 5, none⟩ u5).setCell ⟨b, 6, none⟩ u6) b none ∧ (((((((W.setCell ⟨b, 0, none⟩ u0).setCell ⟨b, 1, none⟩ u1).setCell ⟨b, 2, none⟩ u2).setCell ⟨b, 3, none⟩ u3).setCell ⟨b, 4, none⟩ u4).setCell ⟨b, 5, none⟩ u5).setCell ⟨b, 6, none⟩ u6).heap[b]? = some (.cells #[u0, u1, u2, u3, u4, u5, u6] t (0, 0)) ∧
      ∀ w0 : World, Below w0.heap.size w0 W → w0.heap.size ≤ b → Below w0.heap.size w0 (((((((W.setCell ⟨b, 0, none⟩ u0).setCell ⟨b, 1, none⟩ u1).setCell ⟨b, 2, none⟩ u2).setCell ⟨b, 3, none⟩ u3).setCell ⟨b, 4, none⟩ u4).setCell ⟨b, 5, none⟩ u5).setCell ⟨b, 6, none⟩ u6) :=
  ⟨(((((((KeepBut.refl W b none).set_ 0 u0).set_ 1 u1).set_ 2 u2).set_ 3 u3).set_ 4 u4).set_ 5 u5).set_ 6 u6, blk_put (cs' := #[u0, u1, u2, u3, u4, u5, u6]) (blk_put (cs' := #[u0, u1, u2, u3, u4, u5, z6]) (blk_put (cs' := #[u0, u1, u2, u3, u4, z5, z6]) (blk_put (cs' := #[u0, u1, u2, u3, z4, z5, z6]) (blk_put (cs' := #[u0, u1, u2, z3, z4, z5, z6]) (blk_put (cs' := #[u0, u1, z2, z3, z4, z5, z6]) (blk_put (cs' := #[u0, z1, z2, z3, z4, z5, z6]) h 0 u0 rfl) 1 u1 rfl) 2 u2 rfl) 3 u3 rfl) 4 u4 rfl) 5 u5 rfl) 6 u6 rfl,
    fun w0 hB hb => below_set (below_set (below_set (below_set (below_set (below_set (below_set hB hb) hb) hb) hb) hb) hb) hb⟩
def rwpReg.T9 : Bool × List (List Nat × List Nat) := (true, [([], []), ([0], [0]), ([], []), ([2], [2]), ([3], [3]), ([1, 4, 3], [1, 4]), ([0, 1, 2, 3, 4, 5], []), ([6, 5, 5, 0, 1, 2, 3, 4, 5], [5, 6])])
def rwpReg.B9 : List Nat := [0, 1, 0, 4, 12, 31, 63, 127]
theorem rwpReg.tab9 : rtab .any (opsOf Tryd.f70 9) = rwpReg.T9 := by kernel_rfl
theorem rwpReg.bits9 : waitsOk rwpReg.T9.2 rwpReg.B9 = true := by kernel_rfl
def rwsReg.T14 : Bool × List (List Nat × List Nat) := (true, [([], []), ([0], [0]), ([], []), ([2], [2]), ([3], [3]), ([1, 4, 3], [1, 4]), ([0, 1, 2, 3, 4, 5], []), ([6, 5, 5, 0, 1, 2, 3, 4, 5], [5, 6])])
def rwsReg.B14 : List Nat := [0, 1, 0, 4, 12, 31, 63, 127]
theorem rwsReg.tab14 : rtab .any (opsOf Tryd.f70 14) = rwsReg.T14 := by kernel_rfl
theorem rwsReg.bits14 : waitsOk rwsReg.T14.2 rwsReg.B14 = true := by kernel_rfl
set_option maxRecDepth 100000 in
set_option maxHeartbeats 16000000 in
theorem wread_calls (g : Nat) (s : Rs) (w0 w : World) (hI : IsRs w0 w g s) (hB : Below w0.heap.size w0 w) :
    Calls Tryd.prog 70 #[.pointer (some ⟨g, 0, none⟩)] w fun e w' => ∃ A5 m5 A6 m6, e = .returned (mW (readM s).1 A5 m5 A6 m6) ∧ LiesM w' (readM s).1 A5 A6 ∧ IsRs w0 w' g (readM s).2 ∧ Below w0.heap.size w0 w' ∧ Past w0.heap.size A5 ∧ Past w0.heap.size A6 := by
  obtain ⟨zk, t1, e1⟩ : ∃ x t, rdB s = (x, t) := ⟨_, _, rfl⟩
  obtain ⟨⟨zc, zq⟩, t2, e2⟩ : ∃ x t, rdI t1 = (x, t) := ⟨_, _, rfl⟩
  obtain ⟨⟨zi, zs⟩, t3, e3⟩ : ∃ x t, rdOwn zk t2 = (x, t) := ⟨_, _, rfl⟩
  obtain ⟨pp, t4, e4⟩ : ∃ x t, rdPs zk t3 = (x, t) := ⟨_, _, rfl⟩
  obtain ⟨uu, t5, e5⟩ : ∃ x t, rdSs zk t4 = (x, t) := ⟨_, _, rfl⟩
  have hD := readM_of e1 e2 e3 e4 e5
  rw [hD]
  clear hD
  have hbk := rd_bound e1 hI
  have hwk : IntKind.i64.wrap zk = zk := Go.IntWalk.i64_in _ (by omega)
  have E1 := Lib.hid e1
  have E2 := Lib.hid e2
  have E3 := Lib.hid e3
  have E4 := Lib.hid e4
  have E5 := Lib.hid e5
  clear e1 e2 e3 e4 e5
  obtain ⟨bI, hbI⟩ : ∃ b, asksI zk = b := ⟨_, rfl⟩
  obtain ⟨bP, hbP⟩ : ∃ b, asksP zk = b := ⟨_, rfl⟩
  obtain ⟨bS, hbS⟩ : ∃ b, asksS zk = b := ⟨_, rfl⟩
  have HAI := Lib.hid hbI
  have HAP := Lib.hid hbP
  have HAS := Lib.hid hbS
  clear hbI hbP hbS
  have hzg : w.heap.size ≠ g := by have := IsRd.lt hI; omega
  have hgw : w0.heap.size ≤ w.heap.size := hB.size
  have HNZG := Aside0.mk hzg
  have HNGZ := Aside0.mk (Ne.symm hzg)
  have HZ := Aside0.mk (blk_new w (.cells #[.int .i64 0, .int .i64 0, .int .i64 0, .int .i64 0, .int .i64 0, .slice none 0 0, .slice none 0 0] 50))
  have R0 := Aside0.mk (IsRd.alloc hI (.cells #[.int .i64 0, .int .i64 0, .int .i64 0, .int .i64 0, .int .i64 0, .slice none 0 0, .slice none 0 0] 50))
  have HW := Aside0.mk (below_alloc hB (.cells #[.int .i64 0, .int .i64 0, .int .i64 0, .int .i64 0, .int .i64 0, .slice none 0 0, .slice none 0 0] 50))
  have hn1 : (w.alloc (.cells #[.int .i64 0, .int .i64 0, .int .i64 0, .int .i64 0, .int .i64 0, .slice none 0 0, .slice none 0 0] 50)).heap.size = w.heap.size + 1 := by simp
  clear hI hB hzg
  go_enter Tryd.func70, Tryd.ntmps70
  go_upto_region 1 with fail
  generalize (w.alloc (.cells #[.int .i64 0, .int .i64 0, .int .i64 0, .int .i64 0, .int .i64 0, .slice none 0 0, .slice none 0 0] 50)) = wa at *
  go_upto_region 2 with (first
    | (have hI0 := R1.out; clear R1; go_at_call 94; refine (rdI_calls E2.out g w0 _ hI0 HW.out).mono ?_; rintro e wb ⟨rfl, hI, hB2, hK⟩; have hgb := IsRd.lt hI; have hge := hB2.size; have HZb := Aside0.mk (KeepBut.blk hK HZ.out HNZG.out (by simp)); have hzb := blk_lt HZb.out; have R2 := Aside0.mk (IsRd.alloc hI (.cells #[.int .i64 zk, .int .i64 zc, .int .i64 zq, .int .i64 0, .int .i64 0, .slice none 0 0, .slice none 0 0] 50)); replace HW := Aside0.mk (below_alloc hB2 (.cells #[.int .i64 zk, .int .i64 zc, .int .i64 zq, .int .i64 0, .int .i64 0, .slice none 0 0, .slice none 0 0] 50)); replace HZ := Aside0.mk (blk_alloc HZb.out (.cells #[.int .i64 zk, .int .i64 zc, .int .i64 zq, .int .i64 0, .int .i64 0, .slice none 0 0, .slice none 0 0] 50)); have HO := Aside0.mk (blk_new wb (.cells #[.int .i64 zk, .int .i64 zc, .int .i64 zq, .int .i64 0, .int .i64 0, .slice none 0 0, .slice none 0 0] 50)); clear hI hB2 hK hI0 HZb)
    | (have hI0 := R0.out; clear R0; go_at_call 90; refine (rdB_calls E1.out g w0 _ hI0 HW.out).mono ?_; rintro e w2 ⟨rfl, hI, hB2, hK⟩; have R1 := Aside0.mk hI; replace HW := Aside0.mk hB2; replace HZ := Aside0.mk (KeepBut.blk hK HZ.out HNZG.out (by simp)); clear hI hB2 hK hI0))
  generalize (wb.alloc (.cells #[.int .i64 zk, .int .i64 zc, .int .i64 zq, .int .i64 0, .int .i64 0, .slice none 0 0, .slice none 0 0] 50)) = wc at *
  generalize hbo : wb.heap.size = bo at *
  generalize w.heap.size = bz at *
  generalize hzr : (#[.int .i64 0, .int .i64 0, .int .i64 0, .int .i64 0, .int .i64 0, .slice none 0 0, .slice none 0 0] : Array Value) = zr at HZ
  have HNG := Aside0.mk (show bo ≠ g by omega)
  have HNG2 := Aside0.mk (show g ≠ bo by omega)
  have HNZO := Aside0.mk (show bz ≠ bo by omega)
  have HGE := Aside0.mk (show w0.heap.size ≤ bo by omega)
  have HGZ := Aside0.mk (show w0.heap.size ≤ bz by omega)
  clear hbo hgb hge hzb hgw hbk hwk hn1
  have q0 := (blk_cell HO.out 0).trans (rfl : _ = some (Value.int .i64 zk))
  have hlo := blk_lt HO.out
  go_upto_if 22 with (first | (go_at_call 55; refine (parts_calls zk _).mono ?_; rintro e wd ⟨n, rfl, b1, b2, b4, hB⟩; have b1' : (Go.bits .and .i64 n 1 != 0) = bI := (by rw [HAI.out] at b1; simp only [bne, b1, Bool.not_not]); have b2' : (Go.bits .and .i64 n 2 != 0) = bP := (by rw [HAP.out] at b2; simp only [bne, b2, Bool.not_not]); have b4' : (Go.bits .and .i64 n 4 != 0) = bS := (by rw [HAS.out] at b4; simp only [bne, b4, Bool.not_not]); replace R2 := Aside0.mk (IsRd.below R2.out hB); replace HW := Aside0.mk (below_step HW.out hB); replace HZ := Aside0.mk (blk_below HZ.out hB); replace HO := Aside0.mk (blk_below HO.out hB); clear hB b1 b2 b4))
  clear q0 hlo
  go_cut [24] (fun _ wx => Aside0 (IsRs w0 wx g t3) ∧ Aside0 (Below w0.heap.size w0 wx) ∧ Aside0 (wx.heap[bz]? = some (.cells zr 50 (0, 0))) ∧ Aside0 (wx.heap[bo]? = some (.cells #[.int .i64 zk, .int .i64 zc, .int .i64 zq, .int .i64 zi, .int .i64 zs, .slice none 0 0, .slice none 0 0] 50 (0, 0))))
  case first =>
    cases bI
    case false =>
      obtain ⟨⟨rfl, rfl⟩, rfl⟩ : (0 = zi ∧ 0 = zs) ∧ t2 = t3 := by have := E3.out; unfold rdOwn at this; rw [HAI.out, if_neg (by decide)] at this; simpa using this
      go_wp2
      go_meet
      case rel => exact ⟨R2, HW, HZ, HO⟩
    case true =>
      have E3' := Lib.hid (show rdI t2 = ((zi, zs), t3) by have := E3.out; unfold rdOwn at this; rw [HAI.out, if_pos rfl] at this; exact this)
      go_wp2_with (first | (have hI0 := R2.out; clear R2; go_at_call 94; refine (rdI_calls E3'.out g w0 _ hI0 HW.out).mono ?_; rintro e we ⟨rfl, hI, hB2, hK⟩; have R3 := Aside0.mk hI; replace HW := Aside0.mk hB2; replace HZ := Aside0.mk (KeepBut.blk hK HZ.out HNZG.out (by simp)); replace HO := Aside0.mk (KeepBut.blk hK HO.out HNG.out (by simp)); have q3 := (blk_cell HO.out 3).trans (rfl : _ = some (Value.int .i64 0)); have q4 := (blk_cell HO.out 4).trans (rfl : _ = some (Value.int .i64 0)); have f3 := blk_frozen HO.out 3; have f4 := blk_frozen HO.out 4; have hlo := blk_lt HO.out; clear hI hB2 hK hI0))
      go_meet
      case rel => exact ⟨⟨rd_set (rd_set R3.out HNG2.out _) HNG2.out _⟩, ⟨below_set (below_set HW.out HGE.out) HGE.out⟩, ⟨blk_far (p := ⟨bo, 4, none⟩) (blk_far (p := ⟨bo, 3, none⟩) HZ.out HNZO.out _) HNZO.out _⟩, ⟨blk_put (cs' := #[.int .i64 zk, .int .i64 zc, .int .i64 zq, .int .i64 zi, .int .i64 zs, .slice none 0 0, .slice none 0 0]) (blk_put (cs' := #[.int .i64 zk, .int .i64 zc, .int .i64 zq, .int .i64 zi, .int .i64 0, .slice none 0 0, .slice none 0 0]) HO.out 3 (.int .i64 zi) rfl) 4 (.int .i64 zs) rfl⟩⟩
  case rest =>
    obtain ⟨R3, HW1, HZ1, HO1⟩ := hcut
    clear R2 HW HZ HO
    have HW := HW1
    have HZ := HZ1
    have HO := HO1
    clear HW1 HZ1 HO1
    go_upto_if 28 with fail
    go_cut [6] (fun _ wx => ∃ aP cP, Aside0 (IsRs w0 wx g t4) ∧ Aside0 (Below w0.heap.size w0 wx) ∧ Aside0 (wx.heap[bz]? = some (.cells zr 50 (0, 0))) ∧ Aside0 (wx.heap[bo]? = some (.cells #[.int .i64 zk, .int .i64 zc, .int .i64 zq, .int .i64 zi, .int .i64 zs, .slice aP pp.length cP, .slice none 0 0] 50 (0, 0))) ∧ Aside0 (Kd.R kCo 44 wx w0.heap.size (fun _ => True) (.slice aP pp.length cP) pp))
    case first =>
      cases bP
      case false =>
        obtain ⟨rfl, rfl⟩ : [] = pp ∧ t3 = t4 := by have := E4.out; unfold rdPs at this; rw [HAP.out, if_neg (by decide)] at this; simpa using this
        go_wp2
        go_meet
        case rel => exact ⟨none, 0, R3, HW, HZ, HO, ⟨Kd.R_nil _ _ _ _ _⟩⟩
      case true =>
        obtain ⟨zm, t6, e6⟩ : ∃ x t, rdB t3 = (x, t) := ⟨_, _, rfl⟩
        have hbm := rd_bound e6 R3.out
        obtain ⟨zmn, rfl⟩ : ∃ n : Nat, zm = (n : Int) := ⟨zm.toNat, by omega⟩
        have hwm : IntKind.i64.wrap (zmn : Int) = (zmn : Int) := Go.IntWalk.i64_in _ (by omega)
        have hzm : zmn ≤ 255 := by omega
        have E7 := Lib.hid (show rdMany rdCon zmn t6 [] = (pp, t4) by have := E4.out; unfold rdPs at this; rw [HAP.out, if_pos rfl, e6, Int.toNat_natCast] at this; exact this)
        have E6 := Lib.hid e6
        clear e6 hbm
        go_upto_block 0 with (have hI0 := R3.out; clear R3; go_at_call 90; refine (rdB_calls E6.out g w0 _ hI0 HW.out).mono ?_; rintro e wd ⟨rfl, hI, hB2, hK⟩; have R7 := Aside0.mk hI; replace HW := Aside0.mk hB2; replace HZ := Aside0.mk (KeepBut.blk hK HZ.out HNZG.out (by simp)); replace HO := Aside0.mk (KeepBut.blk hK HO.out HNG.out (by simp)); clear hI hB2 hK hI0)
        go_wp2_with fail
        go_loopw [6] (fun i wr => ∃ (kk : Nat) (s0 : Rs) (pl : List Co) (aP : Option Addr) (cP : Nat), i = .int .i64 (kk : Int) ∧ kk + pl.length ≤ 255 ∧ Aside0 (rdMany rdCon kk s0 pl = (pp, t4)) ∧ Aside0 (IsRs w0 wr g s0) ∧ Aside0 (Below w0.heap.size w0 wr) ∧ Aside0 (wr.heap[bz]? = some (.cells zr 50 (0, 0))) ∧ Aside0 (wr.heap[bo]? = some (.cells #[.int .i64 zk, .int .i64 zc, .int .i64 zq, .int .i64 zi, .int .i64 zs, .slice aP pl.length cP, .slice none 0 0] 50 (0, 0))) ∧ Aside0 (Kd.R kCo 44 wr w0.heap.size (fun _ => True) (.slice aP pl.length cP) pl)) (fun i _ => (intOf i).toNat)
        case atStart => exact ⟨zmn, t6, [], none, 0, rfl, by simpa using hzm, ⟨E7.out⟩, R7, HW, HZ, HO, ⟨Kd.R_nil _ _ _ _ _⟩⟩
        case round =>
          obtain ⟨kk, s0, pl, aP, cP, rfl, hk, EK, R0, HW, HZ, HO, HP⟩ := hrel
          by_cases hk0 : kk = 0
          · subst hk0
            obtain ⟨rfl, rfl⟩ : pl = pp ∧ s0 = t4 := by have := EK.out; simpa [rdMany] using this
            have hd0 : decide (((0 : Nat) : Int) > 0) = false := by decide
            go_wp2_with fail
            go_meet
            case rel => exact ⟨aP, cP, R0, HW, HZ, HO, HP⟩
          · have hd0 : decide ((kk : Int) > 0) = true := decide_eq_true (by omega)
            by_cases hbd : s0.2 = true
            · have hnb : (!s0.2) = false := by rw [hbd]; rfl
              obtain ⟨rfl, rfl⟩ : pl = pp ∧ s0 = t4 := by have := EK.out; rw [rdMany_bad _ _ _ _ hbd] at this; simpa using this
              clear hbd
              go_wp2_with (go_at_call 92; refine (good_calls g _ _ w0 _ R0.out).mono ?_; rintro e w3 ⟨rfl, rfl⟩)
              go_meet
              case rel => exact ⟨aP, cP, R0, HW, HZ, HO, HP⟩
            · replace hbd : s0.2 = false := by simpa using hbd
              have hnb : (!s0.2) = true := by rw [hbd]; rfl
              obtain ⟨k, rfl⟩ : ∃ k, kk = k + 1 := ⟨kk - 1, by omega⟩
              obtain ⟨⟨n1, k1, lo1, hi1, tx1⟩, s1, ea⟩ : ∃ x t, rdCon s0 = (x, t) := ⟨_, _, rfl⟩
              have EN := Aside0.mk (show rdMany rdCon k s1 (pl ++ [(n1, k1, lo1, hi1, tx1)]) = (pp, t4) by have := EK.out; rw [rdMany_step _ _ _ _ hbd, ea] at this; exact this)
              have E1 := Lib.hid ea
              have hpl2 : pl.length ≤ 255 := by omega
              clear ea hbd EK
              go_upto_region 9 with (go_at_call 92; refine (good_calls g _ _ w0 _ R0.out).mono ?_; rintro e w3 ⟨rfl, rfl⟩)
              refine start_ (n := 8) (S := fun w' => True) (ds := []) #[false, false, false, false, false, false, false, false] (by kernel_rfl) rfl rfl trivial (fun hHeld => ?_)
              refine with_tabW rwpReg.tab9 rwpReg.bits9 (fun HT_ HW_ => ?_)
              refine pure_ (i := 0) (N := some 40) (v := ?_) (a' := ?_) #[true, false, false, false, false, false, false, false] rfl rfl (any_of HT_.out (by kernel_rfl)) (fun _ _ _ h => h) (Or.inl ⟨by rfl, ?_⟩) ?_ ?_
              rotate_left
              · intro w'
                go_simp
                with_reducible rfl
              rotate_left
              · simp only [Act.put, List.setIfInBounds_toArray, List.set_cons_zero, List.set_cons_succ, i64_w, i32_w]
                rfl
              refine pure_ (i := 2) (N := some 42) (v := ?_) (a' := ?_) #[true, false, true, false, false, false, false, false] rfl rfl (any_of HT_.out (by kernel_rfl)) (fun _ _ _ h => h) (Or.inl ⟨by rfl, ?_⟩) ?_ ?_
              rotate_left
              · intro w'
                go_simp
                with_reducible rfl
              rotate_left
              · simp only [Act.put, List.setIfInBounds_toArray, List.set_cons_zero, List.set_cons_succ, i64_w, i32_w]
                rfl
              refine inv_at [1, 3, 4, 5, 6, 7] (fun a0_ b a w' => ∃ (b4_ : Nat) (a5_ : Option Addr) (c5_ : Nat) (m4_ : Value) (m5_ : Value), a = putSel a0_ b [(1, 41, .slice aP pl.length cP), (3, 43, .agg #[.string n1, .int .i64 k1, .int .i64 lo1, .int .i64 hi1, .string tx1]), (4, 44, m4_), (5, 45, m5_), (6, 46, .pointer (some ⟨bo, 5, none⟩))] ∧ (Below w0.heap.size w0 w') ∧ (b 3 = false → IsRs w0 w' g s0) ∧ (b 3 = true → IsRs w0 w' g s1) ∧ (w'.heap[bz]? = some (.cells zr 50 (0, 0))) ∧ (b 7 = false → w'.heap[bo]? = some (.cells #[.int .i64 zk, .int .i64 zc, .int .i64 zq, .int .i64 zi, .int .i64 zs, .slice aP pl.length cP, .slice none 0 0] 50 (0, 0))) ∧ (b 7 = true → w'.heap[bo]? = some (.cells #[.int .i64 zk, .int .i64 zc, .int .i64 zq, .int .i64 zi, .int .i64 zs, .slice a5_ (pl ++ [(n1, k1, lo1, hi1, tx1)]).length c5_, .slice none 0 0] 50 (0, 0))) ∧ (b 5 = false → Kd.R kCo 44 w' w0.heap.size (fun _ => True) (.slice aP pl.length cP) pl) ∧ (b 5 = true → Kd.R kCo 44 w' w0.heap.size (fun _ => True) (.slice a5_ (pl ++ [(n1, k1, lo1, hi1, tx1)]).length c5_) (pl ++ [(n1, k1, lo1, hi1, tx1)])) ∧ (b 4 = true → b 5 = false → Kd.C kCo w' (some ⟨b4_, 0, none⟩) 1 [(n1, k1, lo1, hi1, tx1)]) ∧ (b 4 = true → (m4_ : Value) = .slice (some ⟨b4_, 0, none⟩) 1 1) ∧ (b 5 = true → (m5_ : Value) = .slice a5_ (pl ++ [(n1, k1, lo1, hi1, tx1)]).length c5_)) HT_.out HW_.out (by kernel_rfl) (by kernel_rfl) ?_ ?_ ?_
              · exact ⟨0, none, 0, .bool false, .bool false, by simp only [putSel, Bool.false_eq_true, if_false], below_drew HW.out, fun _ => IsRd.drewN R0.out 1, fun h_ => absurd h_ (by decide), HZ.out, fun _ => HO.out, fun h_ => absurd h_ (by decide), fun _ => Kd.R_drew HP.out, fun h_ => absurd h_ (by decide), fun h_ => absurd h_ (by decide), fun h_ => absurd h_ (by decide), fun h_ => absurd h_ (by decide)⟩
              · skip
                clear HO HP HW HZ R0
                refine steps_cons ?_ ?_
                · rintro b a w' ⟨b4_, a5_, c5_, m4_, m5_, ha, Q_HW, Q_R0, Q_R3, Q_HZ, Q_HO, Q_HO2, Q_HP, Q_H5, Q_HC, Q_X4_, Q_X5_⟩ hb_ hon hoff
                  refine ⟨_, rfl, fun K hK => ?_⟩
                  have e40 : a.tmps[40]? = some (.pointer (some ⟨bo, 5, none⟩)) := by rw [ha]; exact (putSel_off rfl).trans rfl
                  replace ha := Aside0.mk ha
                  have HW := Aside0.mk Q_HW
                  have HZ := Aside0.mk Q_HZ
                  have HO := Aside0.mk (Q_HO (hoff 7 (by kernel_rfl)))
                  have HP := Aside0.mk (Q_HP (hoff 5 (by kernel_rfl)))
                  have q0 := (blk_cell HO.out 5).trans (rfl : _ = some (Value.slice aP pl.length cP))
                  refine value_ (w1 := w') (v := .slice aP pl.length cP) (by rfl) rfl ?_ ?_
                  · go_simp
                    (try simp only [i64_w])
                    try rfl
                  refine hK.out _ _ ⟨b4_, a5_, c5_, m4_, m5_, (by rw [ha.out]; exact putSel_upk 0 hb_ rfl rfl rfl), Q_HW, Q_R0, Q_R3, Q_HZ, Q_HO, fun h0_ => absurd ((hoff 7 (by kernel_rfl)).symm.trans h0_) (by decide), Q_HP, fun h0_ => absurd ((hoff 5 (by kernel_rfl)).symm.trans h0_) (by decide), Q_HC, Q_X4_, fun h0_ => absurd ((hoff 5 (by kernel_rfl)).symm.trans h0_) (by decide)⟩
                refine steps_cons ?_ ?_
                · rintro b a w' ⟨b4_, a5_, c5_, m4_, m5_, ha, Q_HW, Q_R0, Q_R3, Q_HZ, Q_HO, Q_HO2, Q_HP, Q_H5, Q_HC, Q_X4_, Q_X5_⟩ hb_ hon hoff
                  refine ⟨_, rfl, fun K hK => ?_⟩
                  have e42 : a.tmps[42]? = some (.pointer (some ⟨g, 0, none⟩)) := by rw [ha]; exact (putSel_off rfl).trans rfl
                  replace ha := Aside0.mk ha
                  have HW := Aside0.mk Q_HW
                  have R0 := Aside0.mk (Q_R0 hb_)
                  have HZ := Aside0.mk Q_HZ
                  have HO := Aside0.mk (Q_HO (hoff 7 (by kernel_rfl)))
                  have HP := Aside0.mk (Q_HP (hoff 5 (by kernel_rfl)))
                  refine goes_ Tryd.func95 (by kernel_rfl) rfl #[.pointer (some ⟨g, 0, none⟩)] (by rfl) rfl rfl (by simp only [List.map_toArray, List.map_cons, List.map_nil, Act.eval, Array.getD_eq_getD_getElem?, Option.getD_some, e42]) ?_
                  refine (rcon_calls E1.out g w0 w' R0.out HW.out).mono ?_
                  rintro e w2 ⟨rfl, hI, hB, hKp⟩
                  refine ⟨_, rfl, ?_⟩
                  refine hK.out _ _ ⟨b4_, a5_, c5_, m4_, m5_, (by rw [ha.out]; exact putSel_upk 1 hb_ rfl rfl rfl), hB, fun h0_ => absurd ((up_self b 3).symm.trans h0_) (by decide), fun _ => hI, KeepBut.blk hKp HZ.out HNZG.out (by simp), fun _ => KeepBut.blk hKp HO.out HNG.out (by simp), fun h0_ => absurd ((hoff 7 (by kernel_rfl)).symm.trans h0_) (by decide), fun _ => R_reader HP.out rfl R0.out (by decide) hKp, fun h0_ => absurd ((hoff 5 (by kernel_rfl)).symm.trans h0_) (by decide), fun h0_ _ => absurd ((hoff 4 (by kernel_rfl)).symm.trans h0_) (by decide), fun h0_ => absurd ((hoff 4 (by kernel_rfl)).symm.trans h0_) (by decide), fun h0_ => absurd ((hoff 5 (by kernel_rfl)).symm.trans h0_) (by decide)⟩
                refine steps_cons ?_ ?_
                · rintro b a w' ⟨b4_, a5_, c5_, m4_, m5_, ha, Q_HW, Q_R0, Q_R3, Q_HZ, Q_HO, Q_HO2, Q_HP, Q_H5, Q_HC, Q_X4_, Q_X5_⟩ hb_ hon hoff
                  refine ⟨_, rfl, fun K hK => ?_⟩
                  have e43 : a.tmps[43]? = some (.agg #[.string n1, .int .i64 k1, .int .i64 lo1, .int .i64 hi1, .string tx1]) := by rw [ha]; exact putSel_on (e := (3, 43, .agg #[.string n1, .int .i64 k1, .int .i64 lo1, .int .i64 hi1, .string tx1])) 1 rfl rfl (hon 3 (by kernel_rfl)) rfl
                  replace ha := Aside0.mk ha
                  have HW := Aside0.mk Q_HW
                  have R3 := Aside0.mk (Q_R3 (hon 3 (by kernel_rfl)))
                  have HZ := Aside0.mk Q_HZ
                  have HO := Aside0.mk (Q_HO (hoff 7 (by kernel_rfl)))
                  have HP := Aside0.mk (Q_HP (hoff 5 (by kernel_rfl)))
                  refine value_ (w1 := w'.alloc (.cells #[.string n1, .int .i64 k1, .int .i64 lo1, .int .i64 hi1, .string tx1] 44)) (v := .slice (some ⟨w'.heap.size, 0, none⟩) 1 1) (by rfl) rfl (by go_simp) ?_
                  refine hK.out _ _ ⟨w'.heap.size, a5_, c5_, (.slice (some ⟨w'.heap.size, 0, none⟩) 1 1), m5_, (by rw [ha.out]; exact putSel_upk 2 hb_ rfl rfl rfl), below_alloc HW.out _, fun h0_ => absurd ((hon 3 (by kernel_rfl)).symm.trans h0_) (by decide), fun _ => IsRd.alloc R3.out _, blk_alloc HZ.out _, fun _ => blk_alloc HO.out _, fun h0_ => absurd ((hoff 7 (by kernel_rfl)).symm.trans h0_) (by decide), fun _ => Kd.R_alloc HP.out _, fun h0_ => absurd ((hoff 5 (by kernel_rfl)).symm.trans h0_) (by decide), fun _ _ => C_oneCo (n1, k1, lo1, hi1, tx1) (blk_new w' _), fun _ => rfl, fun h0_ => absurd ((hoff 5 (by kernel_rfl)).symm.trans h0_) (by decide)⟩
                refine steps_cons ?_ ?_
                · rintro b a w' ⟨b4_, a5_, c5_, m4_, m5_, ha, Q_HW, Q_R0, Q_R3, Q_HZ, Q_HO, Q_HO2, Q_HP, Q_H5, Q_HC, Q_X4_, Q_X5_⟩ hb_ hon hoff
                  refine ⟨_, rfl, fun K hK => ?_⟩
                  have e41 : a.tmps[41]? = some (.slice aP pl.length cP) := by rw [ha]; exact putSel_on (e := (1, 41, .slice aP pl.length cP)) 0 rfl rfl (hon 1 (by kernel_rfl)) rfl
                  have e44 : a.tmps[44]? = some (m4_) := by rw [ha]; exact putSel_on (e := (4, 44, m4_)) 2 rfl rfl (hon 4 (by kernel_rfl)) rfl
                  rw [Q_X4_ (hon 4 (by kernel_rfl))] at e44
                  replace ha := Aside0.mk ha
                  have HW := Aside0.mk Q_HW
                  have R3 := Aside0.mk (Q_R3 (hon 3 (by kernel_rfl)))
                  have HZ := Aside0.mk Q_HZ
                  have HO := Aside0.mk (Q_HO (hoff 7 (by kernel_rfl)))
                  have HP := Aside0.mk (Q_HP hb_)
                  have HC := Aside0.mk (Q_HC (hon 4 (by kernel_rfl)) hb_)
                  refine cat_step_at kCo flatKM w0 w' w0.heap.size (by rfl) (.tmp 41) (.tmp 44) 27 44 (.agg #[(.string ⟨#[]⟩), (.int .i64 0), (.int .i64 0), (.int .i64 0), (.string ⟨#[]⟩)]) 56 rfl Tryd.underlying27 infoCo rfl (by decide) (by omega) (.slice aP pl.length cP) (pl) ([(n1, k1, lo1, hi1, tx1)]) (some ⟨b4_, 0, none⟩) 1 1 (eval_of e41) (eval_of e44) (HP.out) (HC.out) HW.out HW.out.size (by first | omega | (simp; omega)) ?_
                  intro v1 w1 ho hb hg hat
                  obtain ⟨A1, c1, rfl⟩ := Kd.R_slice ho
                  refine hK.out _ _ ⟨b4_, A1, c1, m4_, (.slice A1 (pl ++ [(n1, k1, lo1, hi1, tx1)]).length c1), (by rw [ha.out]; exact putSel_upk 3 hb_ rfl rfl rfl), hb, fun h0_ => absurd ((hon 3 (by kernel_rfl)).symm.trans h0_) (by decide), fun _ => IsRd.grown R3.out hg (rd_ne HP.out R3.out (by decide)), blk_grown HZ.out hg (R_ne HP.out HZ.out (by decide)), fun _ => blk_grown HO.out hg (R_ne HP.out HO.out (by decide)), fun h0_ => absurd ((hoff 7 (by kernel_rfl)).symm.trans h0_) (by decide), fun h0_ => absurd ((up_self b 5).symm.trans h0_) (by decide), fun _ => ho, fun _ h1_ => absurd ((up_self b 5).symm.trans h1_) (by decide), Q_X4_, fun _ => rfl⟩
                refine steps_cons ?_ ?_
                · rintro b a w' ⟨b4_, a5_, c5_, m4_, m5_, ha, Q_HW, Q_R0, Q_R3, Q_HZ, Q_HO, Q_HO2, Q_HP, Q_H5, Q_HC, Q_X4_, Q_X5_⟩ hb_ hon hoff
                  refine ⟨_, rfl, fun K hK => ?_⟩
                  have e3 : a.tmps[3]? = some (.pointer (some ⟨bo, 0, none⟩)) := by rw [ha]; exact (putSel_off rfl).trans rfl
                  replace ha := Aside0.mk ha
                  have HW := Aside0.mk Q_HW
                  have R3 := Aside0.mk (Q_R3 (hon 3 (by kernel_rfl)))
                  have HZ := Aside0.mk Q_HZ
                  have HO := Aside0.mk (Q_HO (hoff 7 (by kernel_rfl)))
                  have H5 := Aside0.mk (Q_H5 (hon 5 (by kernel_rfl)))
                  refine value_ (w1 := w') (v := .pointer (some ⟨bo, 5, none⟩)) (by rfl) rfl ?_ ?_
                  · go_simp
                    (try simp only [i64_w])
                    try rfl
                  refine hK.out _ _ ⟨b4_, a5_, c5_, m4_, m5_, (by rw [ha.out]; exact putSel_upk 4 hb_ rfl rfl rfl), Q_HW, fun h0_ => absurd ((hon 3 (by kernel_rfl)).symm.trans h0_) (by decide), Q_R3, Q_HZ, Q_HO, fun h0_ => absurd ((hoff 7 (by kernel_rfl)).symm.trans h0_) (by decide), fun h0_ => absurd ((hon 5 (by kernel_rfl)).symm.trans h0_) (by decide), Q_H5, fun _ h1_ => absurd ((hon 5 (by kernel_rfl)).symm.trans h1_) (by decide), Q_X4_, Q_X5_⟩
                refine steps_cons ?_ ?_
                · rintro b a w' ⟨b4_, a5_, c5_, m4_, m5_, ha, Q_HW, Q_R0, Q_R3, Q_HZ, Q_HO, Q_HO2, Q_HP, Q_H5, Q_HC, Q_X4_, Q_X5_⟩ hb_ hon hoff
                  refine ⟨_, rfl, fun K hK => ?_⟩
                  have e46 : a.tmps[46]? = some (.pointer (some ⟨bo, 5, none⟩)) := by rw [ha]; exact putSel_on (e := (6, 46, .pointer (some ⟨bo, 5, none⟩))) 4 rfl rfl (hon 6 (by kernel_rfl)) rfl
                  have e45 : a.tmps[45]? = some (m5_) := by rw [ha]; exact putSel_on (e := (5, 45, m5_)) 3 rfl rfl (hon 5 (by kernel_rfl)) rfl
                  rw [Q_X5_ (hon 5 (by kernel_rfl))] at e45
                  replace ha := Aside0.mk ha
                  have HW := Aside0.mk Q_HW
                  have R3 := Aside0.mk (Q_R3 (hon 3 (by kernel_rfl)))
                  have HZ := Aside0.mk Q_HZ
                  have HO := Aside0.mk (Q_HO hb_)
                  have H5 := Aside0.mk (Q_H5 (hon 5 (by kernel_rfl)))
                  have z0 := (blk_cell HO.out 5).trans (rfl : _ = some (Value.slice aP pl.length cP))
                  have f0 := blk_frozen HO.out 5
                  have hl := blk_lt HO.out
                  refine skip_ (w1 := w'.setCell ⟨bo, 5, none⟩ (.slice a5_ (pl ++ [(n1, k1, lo1, hi1, tx1)]).length c5_)) (by rfl) rfl (by go_simp) ?_
                  refine hK.out _ _ ⟨b4_, a5_, c5_, m4_, m5_, (by rw [ha.out]; exact putSel_none (v := undef) rfl), below_set HW.out HGE.out, fun h0_ => absurd ((hon 3 (by kernel_rfl)).symm.trans h0_) (by decide), fun _ => rd_set R3.out HNG2.out _, blk_far (p := ⟨bo, 5, none⟩) HZ.out HNZO.out _, fun h0_ => absurd ((up_self b 7).symm.trans h0_) (by decide), fun _ => blk_put HO.out 5 (.slice a5_ (pl ++ [(n1, k1, lo1, hi1, tx1)]).length c5_) rfl, fun h0_ => absurd ((hon 5 (by kernel_rfl)).symm.trans h0_) (by decide), fun _ => R_block H5.out rfl HO.out (by decide) ((KeepBut.refl _ bo none).set_ 5 _), fun _ h1_ => absurd ((hon 5 (by kernel_rfl)).symm.trans h1_) (by decide), Q_X4_, Q_X5_⟩
                exact steps_nil
              · rintro b a w' hall ⟨b4_, a5_, c5_, m4_, m5_, ha, Q_HW, Q_R0, Q_R3, Q_HZ, Q_HO, Q_HO2, Q_HP, Q_H5, Q_HC, Q_X4_, Q_X5_⟩
                clear HO HP HW HZ R0
                have hb1_ := hall 1 (by kernel_rfl)
                have hb3_ := hall 3 (by kernel_rfl)
                have hb4_ := hall 4 (by kernel_rfl)
                have hb5_ := hall 5 (by kernel_rfl)
                have hb6_ := hall 6 (by kernel_rfl)
                have hb7_ := hall 7 (by kernel_rfl)
                subst ha
                obtain rfl := Q_X4_ hb4_
                obtain rfl := Q_X5_ hb5_
                simp only [putSel, hb1_, hb3_, hb4_, hb5_, hb6_, hb7_, if_true, Act.put, List.setIfInBounds_toArray, List.set_cons_zero, List.set_cons_succ]
                have HW := Aside0.mk Q_HW
                clear Q_HW
                clear Q_R0
                have R3 := Aside0.mk (Q_R3 hb3_)
                clear Q_R3
                have HZ := Aside0.mk Q_HZ
                clear Q_HZ
                clear Q_HO
                have HO2 := Aside0.mk (Q_HO2 hb7_)
                clear Q_HO2
                clear Q_HP
                have H5 := Aside0.mk (Q_H5 hb5_)
                clear Q_H5
                clear Q_HC
                clear hall hb1_ hb3_ hb4_ hb5_ hb6_ hb7_
                have hwk2 : IntKind.i64.wrap (((k + 1 : Nat) : Int) - 1) = (k : Int) := by rw [Go.IntWalk.i64_in _ (by omega)]; omega
                go_wp2
                go_roundw
                case rel => exact ⟨k, s1, pl ++ [(n1, k1, lo1, hi1, tx1)], _, _, by go_num, by simp only [List.length_append, List.length_singleton]; omega, EN, R3, HW, HZ, HO2, H5⟩
                case measure => simp [intOf]
    case rest =>
      obtain ⟨aP, cP, R4, HW1, HZ1, HO1, HP⟩ := hcut
      clear R3 HW HZ HO
      have HW := HW1
      have HZ := HZ1
      have HO := HO1
      clear HW1 HZ1 HO1
      go_upto_if 49 with fail
      go_cut [7] (fun _ wx => ∃ aA cA, Aside0 (IsRs w0 wx g t5) ∧ Aside0 (Below w0.heap.size w0 wx) ∧ Aside0 (wx.heap[bz]? = some (.cells zr 50 (0, 0))) ∧ Aside0 (wx.heap[bo]? = some (.cells #[.int .i64 zk, .int .i64 zc, .int .i64 zq, .int .i64 zi, .int .i64 zs, .slice aP pp.length cP, .slice aA uu.length cA] 50 (0, 0))) ∧ Aside0 (Kd.R kCo 44 wx w0.heap.size (fun _ => True) (.slice aP pp.length cP) pp) ∧ Aside0 (Kd.R kAt 59 wx w0.heap.size (fun _ => True) (.slice aA uu.length cA) uu))
      case first =>
        cases bS
        case false =>
          obtain ⟨rfl, rfl⟩ : [] = uu ∧ t4 = t5 := by have := E5.out; unfold rdSs at this; rw [HAS.out, if_neg (by decide)] at this; simpa using this
          go_wp2
          go_meet
          case rel => exact ⟨none, 0, R4, HW, HZ, HO, HP, ⟨Kd.R_nil _ _ _ _ _⟩⟩
        case true =>
          obtain ⟨zm, t6, e6⟩ : ∃ x t, rdB t4 = (x, t) := ⟨_, _, rfl⟩
          have hbm := rd_bound e6 R4.out
          obtain ⟨zmn, rfl⟩ : ∃ n : Nat, zm = (n : Int) := ⟨zm.toNat, by omega⟩
          have hwm : IntKind.i64.wrap (zmn : Int) = (zmn : Int) := Go.IntWalk.i64_in _ (by omega)
          have hzm : zmn ≤ 255 := by omega
          have E7 := Lib.hid (show rdMany rdAtt zmn t6 [] = (uu, t5) by have := E5.out; unfold rdSs at this; rw [HAS.out, if_pos rfl, e6, Int.toNat_natCast] at this; exact this)
          have E6 := Lib.hid e6
          have HQ := HP
          clear e6 hbm HP
          go_upto_block 2 with (have hI0 := R4.out; clear R4; go_at_call 90; refine (rdB_calls E6.out g w0 _ hI0 HW.out).mono ?_; rintro e wd ⟨rfl, hI, hB2, hK⟩; have R7 := Aside0.mk hI; replace HW := Aside0.mk hB2; replace HZ := Aside0.mk (KeepBut.blk hK HZ.out HNZG.out (by simp)); replace HO := Aside0.mk (KeepBut.blk hK HO.out HNG.out (by simp)); replace HQ := Aside0.mk (R_reader HQ.out rfl hI0 (by decide) hK); clear hI hB2 hK hI0)
          go_wp2_with fail
          go_loopw [7] (fun i wr => ∃ (kk : Nat) (s0 : Rs) (al : List At) (aA : Option Addr) (cA : Nat), i = .int .i64 (kk : Int) ∧ kk + al.length ≤ 255 ∧ Aside0 (rdMany rdAtt kk s0 al = (uu, t5)) ∧ Aside0 (IsRs w0 wr g s0) ∧ Aside0 (Below w0.heap.size w0 wr) ∧ Aside0 (wr.heap[bz]? = some (.cells zr 50 (0, 0))) ∧ Aside0 (wr.heap[bo]? = some (.cells #[.int .i64 zk, .int .i64 zc, .int .i64 zq, .int .i64 zi, .int .i64 zs, .slice aP pp.length cP, .slice aA al.length cA] 50 (0, 0))) ∧ Aside0 (Kd.R kCo 44 wr w0.heap.size (fun _ => True) (.slice aP pp.length cP) pp) ∧ Aside0 (Kd.R kAt 59 wr w0.heap.size (fun _ => True) (.slice aA al.length cA) al)) (fun i _ => (intOf i).toNat)
          case atStart => exact ⟨zmn, t6, [], none, 0, rfl, by simpa using hzm, ⟨E7.out⟩, R7, HW, HZ, HO, HQ, ⟨Kd.R_nil _ _ _ _ _⟩⟩
          case round =>
            obtain ⟨kk, s0, al, aA, cA, rfl, hk, EK, R0, HW, HZ, HO, HQ, HP⟩ := hrel
            by_cases hk0 : kk = 0
            · subst hk0
              obtain ⟨rfl, rfl⟩ : al = uu ∧ s0 = t5 := by have := EK.out; simpa [rdMany] using this
              have hd0 : decide (((0 : Nat) : Int) > 0) = false := by decide
              go_wp2_with fail
              go_meet
              case rel => exact ⟨aA, cA, R0, HW, HZ, HO, HQ, HP⟩
            · have hd0 : decide ((kk : Int) > 0) = true := decide_eq_true (by omega)
              by_cases hbd : s0.2 = true
              · have hnb : (!s0.2) = false := by rw [hbd]; rfl
                obtain ⟨rfl, rfl⟩ : al = uu ∧ s0 = t5 := by have := EK.out; rw [rdMany_bad _ _ _ _ hbd] at this; simpa using this
                clear hbd
                go_wp2_with (go_at_call 92; refine (good_calls g _ _ w0 _ R0.out).mono ?_; rintro e w3 ⟨rfl, rfl⟩)
                go_meet
                case rel => exact ⟨aA, cA, R0, HW, HZ, HO, HQ, HP⟩
              · replace hbd : s0.2 = false := by simpa using hbd
                have hnb : (!s0.2) = true := by rw [hbd]; rfl
                obtain ⟨k, rfl⟩ : ∃ k, kk = k + 1 := ⟨kk - 1, by omega⟩
                obtain ⟨⟨n1, fb, m1, tx1⟩, s1, ea⟩ : ∃ x t, rdAtt s0 = (x, t) := ⟨_, _, rfl⟩
                have EN := Aside0.mk (show rdMany rdAtt k s1 (al ++ [(n1, fb, m1, tx1)]) = (uu, t5) by have := EK.out; rw [rdMany_step _ _ _ _ hbd, ea] at this; exact this)
                have E1 := Lib.hid ea
                have hpl2 : al.length ≤ 255 := by omega
                clear ea hbd EK
                go_upto_region 14 with (go_at_call 92; refine (good_calls g _ _ w0 _ R0.out).mono ?_; rintro e w3 ⟨rfl, rfl⟩)
                refine start_ (n := 8) (S := fun w' => True) (ds := []) #[false, false, false, false, false, false, false, false] (by kernel_rfl) rfl rfl trivial (fun hHeld => ?_)
                refine with_tabW rwsReg.tab14 rwsReg.bits14 (fun HT_ HW_ => ?_)
                refine pure_ (i := 0) (N := some 61) (v := ?_) (a' := ?_) #[true, false, false, false, false, false, false, false] rfl rfl (any_of HT_.out (by kernel_rfl)) (fun _ _ _ h => h) (Or.inl ⟨by rfl, ?_⟩) ?_ ?_
                rotate_left
                · intro w'
                  go_simp
                  with_reducible rfl
                rotate_left
                · simp only [Act.put, List.setIfInBounds_toArray, List.set_cons_zero, List.set_cons_succ, i64_w, i32_w]
                  rfl
                refine pure_ (i := 2) (N := some 63) (v := ?_) (a' := ?_) #[true, false, true, false, false, false, false, false] rfl rfl (any_of HT_.out (by kernel_rfl)) (fun _ _ _ h => h) (Or.inl ⟨by rfl, ?_⟩) ?_ ?_
                rotate_left
                · intro w'
                  go_simp
                  with_reducible rfl
                rotate_left
                · simp only [Act.put, List.setIfInBounds_toArray, List.set_cons_zero, List.set_cons_succ, i64_w, i32_w]
                  rfl
                refine inv_at [1, 3, 4, 5, 6, 7] (fun a0_ b a w' => ∃ (b4_ : Nat) (a5_ : Option Addr) (c5_ : Nat) (m4_ : Value) (m5_ : Value), a = putSel a0_ b [(1, 62, .slice aA al.length cA), (3, 64, .agg #[.string n1, .bool fb, .int .i64 m1, .string tx1]), (4, 65, m4_), (5, 66, m5_), (6, 67, .pointer (some ⟨bo, 6, none⟩))] ∧ (Below w0.heap.size w0 w') ∧ (b 3 = false → IsRs w0 w' g s0) ∧ (b 3 = true → IsRs w0 w' g s1) ∧ (w'.heap[bz]? = some (.cells zr 50 (0, 0))) ∧ (b 7 = false → w'.heap[bo]? = some (.cells #[.int .i64 zk, .int .i64 zc, .int .i64 zq, .int .i64 zi, .int .i64 zs, .slice aP pp.length cP, .slice aA al.length cA] 50 (0, 0))) ∧ (b 7 = true → w'.heap[bo]? = some (.cells #[.int .i64 zk, .int .i64 zc, .int .i64 zq, .int .i64 zi, .int .i64 zs, .slice aP pp.length cP, .slice a5_ (al ++ [(n1, fb, m1, tx1)]).length c5_] 50 (0, 0))) ∧ (b 5 = false → Kd.R kAt 59 w' w0.heap.size (fun _ => True) (.slice aA al.length cA) al) ∧ (b 5 = true → Kd.R kAt 59 w' w0.heap.size (fun _ => True) (.slice a5_ (al ++ [(n1, fb, m1, tx1)]).length c5_) (al ++ [(n1, fb, m1, tx1)])) ∧ (b 4 = true → b 5 = false → Kd.C kAt w' (some ⟨b4_, 0, none⟩) 1 [(n1, fb, m1, tx1)]) ∧ (Kd.R kCo 44 w' w0.heap.size (fun _ => True) (.slice aP pp.length cP) pp) ∧ (b 4 = true → (m4_ : Value) = .slice (some ⟨b4_, 0, none⟩) 1 1) ∧ (b 5 = true → (m5_ : Value) = .slice a5_ (al ++ [(n1, fb, m1, tx1)]).length c5_)) HT_.out HW_.out (by kernel_rfl) (by kernel_rfl) ?_ ?_ ?_
                · exact ⟨0, none, 0, .bool false, .bool false, by simp only [putSel, Bool.false_eq_true, if_false], below_drew HW.out, fun _ => IsRd.drewN R0.out 1, fun h_ => absurd h_ (by decide), HZ.out, fun _ => HO.out, fun h_ => absurd h_ (by decide), fun _ => Kd.R_drew HP.out, fun h_ => absurd h_ (by decide), fun h_ => absurd h_ (by decide), Kd.R_drew HQ.out, fun h_ => absurd h_ (by decide), fun h_ => absurd h_ (by decide)⟩
                · skip
                  clear HO HP HQ HW HZ R0
                  refine steps_cons ?_ ?_
                  · rintro b a w' ⟨b4_, a5_, c5_, m4_, m5_, ha, Q_HW, Q_R0, Q_R3, Q_HZ, Q_HO, Q_HO2, Q_HP, Q_H5, Q_HC, Q_HQ, Q_X4_, Q_X5_⟩ hb_ hon hoff
                    refine ⟨_, rfl, fun K hK => ?_⟩
                    have e61 : a.tmps[61]? = some (.pointer (some ⟨bo, 6, none⟩)) := by rw [ha]; exact (putSel_off rfl).trans rfl
                    replace ha := Aside0.mk ha
                    have HW := Aside0.mk Q_HW
                    have HZ := Aside0.mk Q_HZ
                    have HO := Aside0.mk (Q_HO (hoff 7 (by kernel_rfl)))
                    have HP := Aside0.mk (Q_HP (hoff 5 (by kernel_rfl)))
                    have HQ := Aside0.mk Q_HQ
                    have q0 := (blk_cell HO.out 6).trans (rfl : _ = some (Value.slice aA al.length cA))
                    refine value_ (w1 := w') (v := .slice aA al.length cA) (by rfl) rfl ?_ ?_
                    · go_simp
                      (try simp only [i64_w])
                      try rfl
                    refine hK.out _ _ ⟨b4_, a5_, c5_, m4_, m5_, (by rw [ha.out]; exact putSel_upk 0 hb_ rfl rfl rfl), Q_HW, Q_R0, Q_R3, Q_HZ, Q_HO, fun h0_ => absurd ((hoff 7 (by kernel_rfl)).symm.trans h0_) (by decide), Q_HP, fun h0_ => absurd ((hoff 5 (by kernel_rfl)).symm.trans h0_) (by decide), Q_HC, Q_HQ, Q_X4_, fun h0_ => absurd ((hoff 5 (by kernel_rfl)).symm.trans h0_) (by decide)⟩
                  refine steps_cons ?_ ?_
                  · rintro b a w' ⟨b4_, a5_, c5_, m4_, m5_, ha, Q_HW, Q_R0, Q_R3, Q_HZ, Q_HO, Q_HO2, Q_HP, Q_H5, Q_HC, Q_HQ, Q_X4_, Q_X5_⟩ hb_ hon hoff
                    refine ⟨_, rfl, fun K hK => ?_⟩
                    have e63 : a.tmps[63]? = some (.pointer (some ⟨g, 0, none⟩)) := by rw [ha]; exact (putSel_off rfl).trans rfl
                    replace ha := Aside0.mk ha
                    have HW := Aside0.mk Q_HW
                    have R0 := Aside0.mk (Q_R0 hb_)
                    have HZ := Aside0.mk Q_HZ
                    have HO := Aside0.mk (Q_HO (hoff 7 (by kernel_rfl)))
                    have HP := Aside0.mk (Q_HP (hoff 5 (by kernel_rfl)))
                    have HQ := Aside0.mk Q_HQ
                    refine goes_ Tryd.func96 (by kernel_rfl) rfl #[.pointer (some ⟨g, 0, none⟩)] (by rfl) rfl rfl (by simp only [List.map_toArray, List.map_cons, List.map_nil, Act.eval, Array.getD_eq_getD_getElem?, Option.getD_some, e63]) ?_
                    refine (ratt_calls E1.out g w0 w' R0.out HW.out).mono ?_
                    rintro e w2 ⟨rfl, hI, hB, hKp⟩
                    refine ⟨_, rfl, ?_⟩
                    refine hK.out _ _ ⟨b4_, a5_, c5_, m4_, m5_, (by rw [ha.out]; exact putSel_upk 1 hb_ rfl rfl rfl), hB, fun h0_ => absurd ((up_self b 3).symm.trans h0_) (by decide), fun _ => hI, KeepBut.blk hKp HZ.out HNZG.out (by simp), fun _ => KeepBut.blk hKp HO.out HNG.out (by simp), fun h0_ => absurd ((hoff 7 (by kernel_rfl)).symm.trans h0_) (by decide), fun _ => R_reader HP.out rfl R0.out (by decide) hKp, fun h0_ => absurd ((hoff 5 (by kernel_rfl)).symm.trans h0_) (by decide), fun h0_ _ => absurd ((hoff 4 (by kernel_rfl)).symm.trans h0_) (by decide), R_reader HQ.out rfl R0.out (by decide) hKp, fun h0_ => absurd ((hoff 4 (by kernel_rfl)).symm.trans h0_) (by decide), fun h0_ => absurd ((hoff 5 (by kernel_rfl)).symm.trans h0_) (by decide)⟩
                  refine steps_cons ?_ ?_
                  · rintro b a w' ⟨b4_, a5_, c5_, m4_, m5_, ha, Q_HW, Q_R0, Q_R3, Q_HZ, Q_HO, Q_HO2, Q_HP, Q_H5, Q_HC, Q_HQ, Q_X4_, Q_X5_⟩ hb_ hon hoff
                    refine ⟨_, rfl, fun K hK => ?_⟩
                    have e64 : a.tmps[64]? = some (.agg #[.string n1, .bool fb, .int .i64 m1, .string tx1]) := by rw [ha]; exact putSel_on (e := (3, 64, .agg #[.string n1, .bool fb, .int .i64 m1, .string tx1])) 1 rfl rfl (hon 3 (by kernel_rfl)) rfl
                    replace ha := Aside0.mk ha
                    have HW := Aside0.mk Q_HW
                    have R3 := Aside0.mk (Q_R3 (hon 3 (by kernel_rfl)))
                    have HZ := Aside0.mk Q_HZ
                    have HO := Aside0.mk (Q_HO (hoff 7 (by kernel_rfl)))
                    have HP := Aside0.mk (Q_HP (hoff 5 (by kernel_rfl)))
                    have HQ := Aside0.mk Q_HQ
                    refine value_ (w1 := w'.alloc (.cells #[.string n1, .bool fb, .int .i64 m1, .string tx1] 59)) (v := .slice (some ⟨w'.heap.size, 0, none⟩) 1 1) (by rfl) rfl (by go_simp) ?_
                    refine hK.out _ _ ⟨w'.heap.size, a5_, c5_, (.slice (some ⟨w'.heap.size, 0, none⟩) 1 1), m5_, (by rw [ha.out]; exact putSel_upk 2 hb_ rfl rfl rfl), below_alloc HW.out _, fun h0_ => absurd ((hon 3 (by kernel_rfl)).symm.trans h0_) (by decide), fun _ => IsRd.alloc R3.out _, blk_alloc HZ.out _, fun _ => blk_alloc HO.out _, fun h0_ => absurd ((hoff 7 (by kernel_rfl)).symm.trans h0_) (by decide), fun _ => Kd.R_alloc HP.out _, fun h0_ => absurd ((hoff 5 (by kernel_rfl)).symm.trans h0_) (by decide), fun _ _ => C_oneAt (n1, fb, m1, tx1) (blk_new w' _), Kd.R_alloc HQ.out _, fun _ => rfl, fun h0_ => absurd ((hoff 5 (by kernel_rfl)).symm.trans h0_) (by decide)⟩
                  refine steps_cons ?_ ?_
                  · rintro b a w' ⟨b4_, a5_, c5_, m4_, m5_, ha, Q_HW, Q_R0, Q_R3, Q_HZ, Q_HO, Q_HO2, Q_HP, Q_H5, Q_HC, Q_HQ, Q_X4_, Q_X5_⟩ hb_ hon hoff
                    refine ⟨_, rfl, fun K hK => ?_⟩
                    have e62 : a.tmps[62]? = some (.slice aA al.length cA) := by rw [ha]; exact putSel_on (e := (1, 62, .slice aA al.length cA)) 0 rfl rfl (hon 1 (by kernel_rfl)) rfl
                    have e65 : a.tmps[65]? = some (m4_) := by rw [ha]; exact putSel_on (e := (4, 65, m4_)) 2 rfl rfl (hon 4 (by kernel_rfl)) rfl
                    rw [Q_X4_ (hon 4 (by kernel_rfl))] at e65
                    replace ha := Aside0.mk ha
                    have HW := Aside0.mk Q_HW
                    have R3 := Aside0.mk (Q_R3 (hon 3 (by kernel_rfl)))
                    have HZ := Aside0.mk Q_HZ
                    have HO := Aside0.mk (Q_HO (hoff 7 (by kernel_rfl)))
                    have HP := Aside0.mk (Q_HP hb_)
                    have HC := Aside0.mk (Q_HC (hon 4 (by kernel_rfl)) hb_)
                    have HQ := Aside0.mk Q_HQ
                    refine cat_step_at kAt flatKM w0 w' w0.heap.size (by rfl) (.tmp 62) (.tmp 65) 28 59 (.agg #[(.string ⟨#[]⟩), (.bool false), (.int .i64 0), (.string ⟨#[]⟩)]) 48 rfl Tryd.underlying28 infoAt rfl (by decide) (by omega) (.slice aA al.length cA) (al) ([(n1, fb, m1, tx1)]) (some ⟨b4_, 0, none⟩) 1 1 (eval_of e62) (eval_of e65) (HP.out) (HC.out) HW.out HW.out.size (by first | omega | (simp; omega)) ?_
                    intro v1 w1 ho hb hg hat
                    obtain ⟨A1, c1, rfl⟩ := Kd.R_slice ho
                    refine hK.out _ _ ⟨b4_, A1, c1, m4_, (.slice A1 (al ++ [(n1, fb, m1, tx1)]).length c1), (by rw [ha.out]; exact putSel_upk 3 hb_ rfl rfl rfl), hb, fun h0_ => absurd ((hon 3 (by kernel_rfl)).symm.trans h0_) (by decide), fun _ => IsRd.grown R3.out hg (rd_ne HP.out R3.out (by decide)), blk_grown HZ.out hg (R_ne HP.out HZ.out (by decide)), fun _ => blk_grown HO.out hg (R_ne HP.out HO.out (by decide)), fun h0_ => absurd ((hoff 7 (by kernel_rfl)).symm.trans h0_) (by decide), fun h0_ => absurd ((up_self b 5).symm.trans h0_) (by decide), fun _ => ho, fun _ h1_ => absurd ((up_self b 5).symm.trans h1_) (by decide), Kd.R_over HQ.out HP.out co_atW hg, Q_X4_, fun _ => rfl⟩
                  refine steps_cons ?_ ?_
                  · rintro b a w' ⟨b4_, a5_, c5_, m4_, m5_, ha, Q_HW, Q_R0, Q_R3, Q_HZ, Q_HO, Q_HO2, Q_HP, Q_H5, Q_HC, Q_HQ, Q_X4_, Q_X5_⟩ hb_ hon hoff
                    refine ⟨_, rfl, fun K hK => ?_⟩
                    have e3 : a.tmps[3]? = some (.pointer (some ⟨bo, 0, none⟩)) := by rw [ha]; exact (putSel_off rfl).trans rfl
                    replace ha := Aside0.mk ha
                    have HW := Aside0.mk Q_HW
                    have R3 := Aside0.mk (Q_R3 (hon 3 (by kernel_rfl)))
                    have HZ := Aside0.mk Q_HZ
                    have HO := Aside0.mk (Q_HO (hoff 7 (by kernel_rfl)))
                    have H5 := Aside0.mk (Q_H5 (hon 5 (by kernel_rfl)))
                    have HQ := Aside0.mk Q_HQ
                    refine value_ (w1 := w') (v := .pointer (some ⟨bo, 6, none⟩)) (by rfl) rfl ?_ ?_
                    · go_simp
                      (try simp only [i64_w])
                      try rfl
                    refine hK.out _ _ ⟨b4_, a5_, c5_, m4_, m5_, (by rw [ha.out]; exact putSel_upk 4 hb_ rfl rfl rfl), Q_HW, fun h0_ => absurd ((hon 3 (by kernel_rfl)).symm.trans h0_) (by decide), Q_R3, Q_HZ, Q_HO, fun h0_ => absurd ((hoff 7 (by kernel_rfl)).symm.trans h0_) (by decide), fun h0_ => absurd ((hon 5 (by kernel_rfl)).symm.trans h0_) (by decide), Q_H5, fun _ h1_ => absurd ((hon 5 (by kernel_rfl)).symm.trans h1_) (by decide), Q_HQ, Q_X4_, Q_X5_⟩
                  refine steps_cons ?_ ?_
                  · rintro b a w' ⟨b4_, a5_, c5_, m4_, m5_, ha, Q_HW, Q_R0, Q_R3, Q_HZ, Q_HO, Q_HO2, Q_HP, Q_H5, Q_HC, Q_HQ, Q_X4_, Q_X5_⟩ hb_ hon hoff
                    refine ⟨_, rfl, fun K hK => ?_⟩
                    have e67 : a.tmps[67]? = some (.pointer (some ⟨bo, 6, none⟩)) := by rw [ha]; exact putSel_on (e := (6, 67, .pointer (some ⟨bo, 6, none⟩))) 4 rfl rfl (hon 6 (by kernel_rfl)) rfl
                    have e66 : a.tmps[66]? = some (m5_) := by rw [ha]; exact putSel_on (e := (5, 66, m5_)) 3 rfl rfl (hon 5 (by kernel_rfl)) rfl
                    rw [Q_X5_ (hon 5 (by kernel_rfl))] at e66
                    replace ha := Aside0.mk ha
                    have HW := Aside0.mk Q_HW
                    have R3 := Aside0.mk (Q_R3 (hon 3 (by kernel_rfl)))
                    have HZ := Aside0.mk Q_HZ
                    have HO := Aside0.mk (Q_HO hb_)
                    have H5 := Aside0.mk (Q_H5 (hon 5 (by kernel_rfl)))
                    have HQ := Aside0.mk Q_HQ
                    have z0 := (blk_cell HO.out 6).trans (rfl : _ = some (Value.slice aA al.length cA))
                    have f0 := blk_frozen HO.out 6
                    have hl := blk_lt HO.out
                    refine skip_ (w1 := w'.setCell ⟨bo, 6, none⟩ (.slice a5_ (al ++ [(n1, fb, m1, tx1)]).length c5_)) (by rfl) rfl (by go_simp) ?_
                    refine hK.out _ _ ⟨b4_, a5_, c5_, m4_, m5_, (by rw [ha.out]; exact putSel_none (v := undef) rfl), below_set HW.out HGE.out, fun h0_ => absurd ((hon 3 (by kernel_rfl)).symm.trans h0_) (by decide), fun _ => rd_set R3.out HNG2.out _, blk_far (p := ⟨bo, 6, none⟩) HZ.out HNZO.out _, fun h0_ => absurd ((up_self b 7).symm.trans h0_) (by decide), fun _ => blk_put HO.out 6 (.slice a5_ (al ++ [(n1, fb, m1, tx1)]).length c5_) rfl, fun h0_ => absurd ((hon 5 (by kernel_rfl)).symm.trans h0_) (by decide), fun _ => R_block H5.out rfl HO.out (by decide) ((KeepBut.refl _ bo none).set_ 6 _), fun _ h1_ => absurd ((hon 5 (by kernel_rfl)).symm.trans h1_) (by decide), R_block HQ.out rfl HO.out (by decide) ((KeepBut.refl _ bo none).set_ 6 _), Q_X4_, Q_X5_⟩
                  exact steps_nil
                · rintro b a w' hall ⟨b4_, a5_, c5_, m4_, m5_, ha, Q_HW, Q_R0, Q_R3, Q_HZ, Q_HO, Q_HO2, Q_HP, Q_H5, Q_HC, Q_HQ, Q_X4_, Q_X5_⟩
                  clear HO HP HQ HW HZ R0
                  have hb1_ := hall 1 (by kernel_rfl)
                  have hb3_ := hall 3 (by kernel_rfl)
                  have hb4_ := hall 4 (by kernel_rfl)
                  have hb5_ := hall 5 (by kernel_rfl)
                  have hb6_ := hall 6 (by kernel_rfl)
                  have hb7_ := hall 7 (by kernel_rfl)
                  subst ha
                  obtain rfl := Q_X4_ hb4_
                  obtain rfl := Q_X5_ hb5_
                  simp only [putSel, hb1_, hb3_, hb4_, hb5_, hb6_, hb7_, if_true, Act.put, List.setIfInBounds_toArray, List.set_cons_zero, List.set_cons_succ]
                  have HW := Aside0.mk Q_HW
                  clear Q_HW
                  clear Q_R0
                  have R3 := Aside0.mk (Q_R3 hb3_)
                  clear Q_R3
                  have HZ := Aside0.mk Q_HZ
                  clear Q_HZ
                  clear Q_HO
                  have HO2 := Aside0.mk (Q_HO2 hb7_)
                  clear Q_HO2
                  clear Q_HP
                  have H5 := Aside0.mk (Q_H5 hb5_)
                  clear Q_H5
                  clear Q_HC
                  have HQ := Aside0.mk Q_HQ
                  clear Q_HQ
                  clear hall hb1_ hb3_ hb4_ hb5_ hb6_ hb7_
                  have hwk2 : IntKind.i64.wrap (((k + 1 : Nat) : Int) - 1) = (k : Int) := by rw [Go.IntWalk.i64_in _ (by omega)]; omega
                  go_wp2
                  go_roundw
                  case rel => exact ⟨k, s1, al ++ [(n1, fb, m1, tx1)], _, _, by go_num, by simp only [List.length_append, List.length_singleton]; omega, EN, R3, HW, HZ, HO2, HQ, H5⟩
                  case measure => simp [intOf]
      case rest =>
        obtain ⟨aA, cA, R5, HWl, HZl, HOl, HPl, HAl⟩ := hcut
        clear R4 HW HZ HO HP
        subst hzr
        have q0 := (blk_cell HOl.out 0).trans (rfl : _ = some (Value.int .i64 zk))
        have z0 := (blk_cell HZl.out 0).trans (rfl : _ = some (Value.int .i64 0))
        have f0 := blk_frozen HZl.out 0
        have q1 := (blk_cell HOl.out 1).trans (rfl : _ = some (Value.int .i64 zc))
        have z1 := (blk_cell HZl.out 1).trans (rfl : _ = some (Value.int .i64 0))
        have f1 := blk_frozen HZl.out 1
        have q2 := (blk_cell HOl.out 2).trans (rfl : _ = some (Value.int .i64 zq))
        have z2 := (blk_cell HZl.out 2).trans (rfl : _ = some (Value.int .i64 0))
        have f2 := blk_frozen HZl.out 2
        have q3 := (blk_cell HOl.out 3).trans (rfl : _ = some (Value.int .i64 zi))
        have z3 := (blk_cell HZl.out 3).trans (rfl : _ = some (Value.int .i64 0))
        have f3 := blk_frozen HZl.out 3
        have q4 := (blk_cell HOl.out 4).trans (rfl : _ = some (Value.int .i64 zs))
        have z4 := (blk_cell HZl.out 4).trans (rfl : _ = some (Value.int .i64 0))
        have f4 := blk_frozen HZl.out 4
        have q5 := (blk_cell HOl.out 5).trans (rfl : _ = some (Value.slice aP pp.length cP))
        have z5 := (blk_cell HZl.out 5).trans (rfl : _ = some (Value.slice none 0 0))
        have f5 := blk_frozen HZl.out 5
        have q6 := (blk_cell HOl.out 6).trans (rfl : _ = some (Value.slice aA uu.length cA))
        have z6 := (blk_cell HZl.out 6).trans (rfl : _ = some (Value.slice none 0 0))
        have f6 := blk_frozen HZl.out 6
        have hl1 := blk_lt HOl.out
        have hl2 := blk_lt HZl.out
        obtain ⟨hk9, hb9, hw9⟩ := put7 HZl.out (.int .i64 zk) (.int .i64 zc) (.int .i64 zq) (.int .i64 zi) (.int .i64 zs) (.slice aP pp.length cP) (.slice aA uu.length cA)
        have RE := Aside0.mk (IsRd.keep R5.out hk9 HNGZ.out)
        have PE := Aside0.mk (R_block HPl.out rfl HZl.out (by decide) hk9)
        have AE := Aside0.mk (R_block HAl.out rfl HZl.out (by decide) hk9)
        have WE := Aside0.mk (hw9 w0 HWl.out HGZ.out)
        have ZE := Aside0.mk hb9
        clear hk9 hb9 hw9 R5 HPl HAl HWl
        go_wp2
        generalize (((((((wc.setCell ⟨bz, 0, none⟩ (.int .i64 zk)).setCell ⟨bz, 1, none⟩ (.int .i64 zc)).setCell ⟨bz, 2, none⟩ (.int .i64 zq)).setCell ⟨bz, 3, none⟩ (.int .i64 zi)).setCell ⟨bz, 4, none⟩ (.int .i64 zs)).setCell ⟨bz, 5, none⟩ (.slice aP pp.length cP)).setCell ⟨bz, 6, none⟩ (.slice aA uu.length cA)) = wE at RE PE AE WE ZE ⊢
        clear q0 z0 f0 q1 z1 f1 q2 z2 f2 q3 z3 f3 q4 z4 f4 q5 z5 f5 q6 z6 f6 hl1 hl2 HOl HZl
        have q0 := (blk_cell ZE.out 0).trans (rfl : _ = some (Value.int .i64 zk))
        have q1 := (blk_cell ZE.out 1).trans (rfl : _ = some (Value.int .i64 zc))
        have q2 := (blk_cell ZE.out 2).trans (rfl : _ = some (Value.int .i64 zq))
        have q3 := (blk_cell ZE.out 3).trans (rfl : _ = some (Value.int .i64 zi))
        have q4 := (blk_cell ZE.out 4).trans (rfl : _ = some (Value.int .i64 zs))
        have q5 := (blk_cell ZE.out 5).trans (rfl : _ = some (Value.slice aP pp.length cP))
        have q6 := (blk_cell ZE.out 6).trans (rfl : _ = some (Value.slice aA uu.length cA))
        obtain ⟨a6, c6, e6, _, hC6⟩ := Kd.R_reads PE.out
        obtain ⟨a7, c7, e7, _, hC7⟩ := Kd.R_reads AE.out
        injection e6 with e6
        injection e7 with e7
        subst e6 e7
        refine bodyPost_ret (v := mW ⟨zk, zc, zq, zi, zs, pp, uu⟩ aP cP aA cA) (by simp [results, Tryd.results70, go_sem, q0, q1, q2, q3, q4, q5, q6]) rfl ⟨aP, cP, aA, cA, rfl, ⟨hC6, hC7⟩, RE.out, WE.out, past_of PE.out, past_of AE.out⟩
end Go.Proofs.YtbplemhjhpfkgaaDoor.Wr

/-
  CodeNumbers returns true.
-/
import Derived.Test.YtbplemhjhpfkgaaDoorNumbersBase
import Derived.Test.YtbplemhjhpfkgaaDoorSplit
import Derived.Test.YtbplemhjhpfkgaaDoorCodeRuns
namespace Go.Proofs.YtbplemhjhpfkgaaDoor.Cd
open Go.RowKit Go.Proofs.YtbplemhjhpfkgaaDoorW.PrintWords Go.Proofs.YtbplemhjhpfkgaaDoorW.PrintLast Go.Proofs.YtbplemhjhpfkgaaDoorW.PrintMore Go.Proofs.YtbplemhjhpfkgaaDoor.Rd
open Go.Proofs.YtbplemhjhpfkgaaDoor.Ft (Door Chain new_chain kind_calls chain_iface)
attribute [local go_sem] max2_int min2_int max_two min_two max_three min_three max_four min_four
set_option linter.unusedVariables false
set_option linter.unusedSimpArgs false
def cnReg.T15 : Bool × List (List Nat × List Nat) := (true, [([], []), ([0], [0]), ([1], [1]), ([2], [2]), ([3, 2], [2, 3]), ([2, 4], [2, 4]), ([5, 2], [5]), ([6], [6]), ([7, 6], [6, 7]), ([8, 6], [6, 8]), ([6, 9], [6, 9]), ([10, 6], [10]), ([11], [11]), ([12, 11], [11, 12]), ([13, 11], [11, 13]), ([11], [11]), ([14, 15, 11, 11], [11, 14, 15]), ([11, 16], [11, 16]), ([17, 16], [17]), ([18], [18]), ([19, 18], [18, 19]), ([20, 18], [18, 20]), ([18], [18]), ([21, 22, 18, 18], [18, 21, 22]), ([18, 23], [18, 23]), ([24, 23], [24]), ([25], [25]), ([26, 25], [25, 26]), ([25, 27], [25, 27]), ([28, 25], [28]), ([29], [29]), ([30, 29], [29, 30]), ([31, 29], [29, 31]), ([29, 32], [29, 32]), ([33, 29], [33]), ([34, 34], [34]), ([34, 35], [34, 35]), ([36, 35, 0, 1, 2, 3, 4, 5, 6, 7, 8, 9, 10, 11, 12, 13, 14, 15, 16, 17, 18, 19, 20, 21, 22, 23, 24, 25, 26, 27, 28, 29, 30, 31, 32, 33, 34, 35, 36], [36])])
def cnReg.B15 : List Nat := [0, 1, 3, 7, 15, 31, 63, 127, 255, 511, 1023, 2047, 4095, 8191, 16383, 4095, 65535, 131071, 262143, 524287, 1048575, 2097151, 524287, 8388607, 16777215, 33554431, 67108863, 134217727, 268435455, 536870911, 1073741823, 2147483647, 4294967295, 8589934591, 17179869183, 34359738367, 68719476735, 137438953471]
theorem cnReg.tab15 : rtab .any (opsOf Tryd.f9 15) = cnReg.T15 := by kernel_rfl
theorem cnReg.bits15 : waitsOk cnReg.T15.2 cnReg.B15 = true := by kernel_rfl
set_option maxRecDepth 100000 in
set_option maxHeartbeats 16000000 in
theorem codeNumbers_calls (n m c : Int) (s : ByteArray) (kind : Int) (w : World) (hg : Door w) (hn : InI64 n) (hm : InI64 m) (hc : InI64 c) (hs : s.size ≤ 140737488351232) :
    Calls Tryd.prog 9 #[.int .i64 n, .int .i64 m, .int .i64 c, .string s, .int .i64 kind] w fun e w' => e = .returned (.bool true) ∧ Below w.heap.size w w' := by
  obtain ⟨q, hq⟩ : ∃ q, min s.size 60 = q := ⟨_, rfl⟩
  have hqI : (if (60 : Int) < (s.size : Int) then (60 : Int) else (s.size : Int)) = (q : Int) := by rw [← hq]; split <;> omega
  have hq1 : q ≤ s.size := by omega
  have hq2 : q ≤ 60 := by omega
  clear hq
  have hsz : (s.extract 0 q).size ≤ 60 := by rw [ByteArray.size_extract]; omega
  have HG := Aside0.mk hg
  obtain ⟨kk, hkk⟩ : ∃ kk, within kind 0 255 = kk := ⟨_, rfl⟩
  have hkb := within_bd kind 0 255 (by omega)
  rw [hkk] at hkb
  have HK := Lib.hid hkk
  clear hg hkk
  go_enter Tryd.func9, Tryd.ntmps9
  go_upto_region 2 with fail
  generalize s.extract 0 q = s1 at *
  clear hqI hq1 hq2
  have HRO := Lib.hid (nO_right (n := n) (m := m) (c := c) hkb hsz)
  have HRP := Lib.hid (nP_right (n := n) (m := m) (c := c) hsz)
  have HWO := Lib.hid (nO_wf (kk := kk) (s := s1) hn hm hc)
  have HWP := Lib.hid (nP_wf (s := s1) hn hm hc)
  clear hkb hsz hn hm hc
  have H1 := Aside0.mk (blk_alloc (blk_new w (.cells #[.string s1, .int .i64 kk, .int .i64 n, .int .i64 m, .string s1, .string ⟨#[]⟩, .int .i64 0, .int .i64 0, .int .i64 0, .string ⟨#[]⟩] 44)) (.cells #[.int .i64 4, .int .i64 c, .int .i64 0, .int .i64 0, .int .i64 0, .int .i64 0, .slice (some ⟨w.heap.size, 0, none⟩) 2 2, .slice none 0 0, .slice none 0 0] 30))
  have ho := blk_new (w.alloc (.cells #[.string s1, .int .i64 kk, .int .i64 n, .int .i64 m, .string s1, .string ⟨#[]⟩, .int .i64 0, .int .i64 0, .int .i64 0, .string ⟨#[]⟩] 44)) (.cells #[.int .i64 4, .int .i64 c, .int .i64 0, .int .i64 0, .int .i64 0, .int .i64 0, .slice (some ⟨w.heap.size, 0, none⟩) 2 2, .slice none 0 0, .slice none 0 0] 30)
  rw [show (w.alloc (.cells #[.string s1, .int .i64 kk, .int .i64 n, .int .i64 m, .string s1, .string ⟨#[]⟩, .int .i64 0, .int .i64 0, .int .i64 0, .string ⟨#[]⟩] 44)).heap.size = w.heap.size + 1 by simp] at ho
  have HO := Aside0.mk ho
  have HW := Aside0.mk (below_alloc (below_alloc (Below.refl w.heap.size w) (.cells #[.string s1, .int .i64 kk, .int .i64 n, .int .i64 m, .string s1, .string ⟨#[]⟩, .int .i64 0, .int .i64 0, .int .i64 0, .string ⟨#[]⟩] 44)) (.cells #[.int .i64 4, .int .i64 c, .int .i64 0, .int .i64 0, .int .i64 0, .int .i64 0, .slice (some ⟨w.heap.size, 0, none⟩) 2 2, .slice none 0 0, .slice none 0 0] 30))
  clear ho
  go_upto_region 3 with (go_at_call 24; refine (within_calls kind 0 255 _ (by omega) (by omega) (by omega)).mono ?_; rintro e w2 ⟨he, rfl⟩; rw [HK.out] at he; subst he)
  generalize ((w.alloc (.cells #[.string s1, .int .i64 kk, .int .i64 n, .int .i64 m, .string s1, .string ⟨#[]⟩, .int .i64 0, .int .i64 0, .int .i64 0, .string ⟨#[]⟩] 44)).alloc (.cells #[.int .i64 4, .int .i64 c, .int .i64 0, .int .i64 0, .int .i64 0, .int .i64 0, .slice (some ⟨w.heap.size, 0, none⟩) 2 2, .slice none 0 0, .slice none 0 0] 30)) = wa at *
  have H3 := Aside0.mk (blk_alloc (blk_new wa (.cells #[.string s1, .bool true, .int .i64 m, .string s1, .string ⟨#[]⟩, .bool false, .int .i64 n, .string ⟨#[]⟩] 59)) (.cells #[.int .i64 6, .int .i64 c, .int .i64 0, .int .i64 n, .int .i64 0, .int .i64 0, .slice none 0 0, .slice (some ⟨wa.heap.size, 0, none⟩) 2 2, .slice none 0 0] 30))
  have hp := blk_new (wa.alloc (.cells #[.string s1, .bool true, .int .i64 m, .string s1, .string ⟨#[]⟩, .bool false, .int .i64 n, .string ⟨#[]⟩] 59)) (.cells #[.int .i64 6, .int .i64 c, .int .i64 0, .int .i64 n, .int .i64 0, .int .i64 0, .slice none 0 0, .slice (some ⟨wa.heap.size, 0, none⟩) 2 2, .slice none 0 0] 30)
  rw [show (wa.alloc (.cells #[.string s1, .bool true, .int .i64 m, .string s1, .string ⟨#[]⟩, .bool false, .int .i64 n, .string ⟨#[]⟩] 59)).heap.size = wa.heap.size + 1 by simp] at hp
  have HP := Aside0.mk hp
  replace H1 := Aside0.mk (blk_alloc (blk_alloc H1.out (.cells #[.string s1, .bool true, .int .i64 m, .string s1, .string ⟨#[]⟩, .bool false, .int .i64 n, .string ⟨#[]⟩] 59)) (.cells #[.int .i64 6, .int .i64 c, .int .i64 0, .int .i64 n, .int .i64 0, .int .i64 0, .slice none 0 0, .slice (some ⟨wa.heap.size, 0, none⟩) 2 2, .slice none 0 0] 30))
  replace HO := Aside0.mk (blk_alloc (blk_alloc HO.out (.cells #[.string s1, .bool true, .int .i64 m, .string s1, .string ⟨#[]⟩, .bool false, .int .i64 n, .string ⟨#[]⟩] 59)) (.cells #[.int .i64 6, .int .i64 c, .int .i64 0, .int .i64 n, .int .i64 0, .int .i64 0, .slice none 0 0, .slice (some ⟨wa.heap.size, 0, none⟩) 2 2, .slice none 0 0] 30))
  replace HW := Aside0.mk (below_alloc (below_alloc HW.out (.cells #[.string s1, .bool true, .int .i64 m, .string s1, .string ⟨#[]⟩, .bool false, .int .i64 n, .string ⟨#[]⟩] 59)) (.cells #[.int .i64 6, .int .i64 c, .int .i64 0, .int .i64 n, .int .i64 0, .int .i64 0, .slice none 0 0, .slice (some ⟨wa.heap.size, 0, none⟩) 2 2, .slice none 0 0] 30))
  clear hp
  go_upto_region 4 with fail
  generalize ((wa.alloc (.cells #[.string s1, .bool true, .int .i64 m, .string s1, .string ⟨#[]⟩, .bool false, .int .i64 n, .string ⟨#[]⟩] 59)).alloc (.cells #[.int .i64 6, .int .i64 c, .int .i64 0, .int .i64 n, .int .i64 0, .int .i64 0, .slice none 0 0, .slice (some ⟨wa.heap.size, 0, none⟩) 2 2, .slice none 0 0] 30)) = wb at *
  generalize hbb : wa.heap.size = b3 at *
  have HWb := Aside0.mk (Below.refl wb.heap.size wb)
  generalize hb1 : w.heap.size = b1 at H1 HO HP H3 ⊢
  generalize b1 + 1 = bO at *
  generalize b3 + 1 = bP at *
  have LO := Aside0.mk (nO_lies (n := n) (m := m) (c := c) (kk := kk) (s := s1) H1.out)
  have LP := Aside0.mk (nP_lies (n := n) (m := m) (c := c) (s := s1) H3.out)
  clear H1 H3
  have q0 := (blk_cell HO.out 0).trans (rfl : _ = some (Value.int .i64 4))
  have q1 := (blk_cell HO.out 1).trans (rfl : _ = some (Value.int .i64 c))
  have q2 := (blk_cell HO.out 2).trans (rfl : _ = some (Value.int .i64 0))
  have q3 := (blk_cell HO.out 3).trans (rfl : _ = some (Value.int .i64 0))
  have q4 := (blk_cell HO.out 4).trans (rfl : _ = some (Value.int .i64 0))
  have q5 := (blk_cell HO.out 5).trans (rfl : _ = some (Value.int .i64 0))
  have q6 := (blk_cell HO.out 6).trans (rfl : _ = some (Value.slice (some ⟨b1, 0, none⟩) 2 2))
  have q7 := (blk_cell HO.out 7).trans (rfl : _ = some (Value.slice none 0 0))
  have q8 := (blk_cell HO.out 8).trans (rfl : _ = some (Value.slice none 0 0))
  have p0 := (blk_cell HP.out 0).trans (rfl : _ = some (Value.int .i64 6))
  have p1 := (blk_cell HP.out 1).trans (rfl : _ = some (Value.int .i64 c))
  have p2 := (blk_cell HP.out 2).trans (rfl : _ = some (Value.int .i64 0))
  have p3 := (blk_cell HP.out 3).trans (rfl : _ = some (Value.int .i64 n))
  have p4 := (blk_cell HP.out 4).trans (rfl : _ = some (Value.int .i64 0))
  have p5 := (blk_cell HP.out 5).trans (rfl : _ = some (Value.int .i64 0))
  have p6 := (blk_cell HP.out 6).trans (rfl : _ = some (Value.slice none 0 0))
  have p7 := (blk_cell HP.out 7).trans (rfl : _ = some (Value.slice (some ⟨b3, 0, none⟩) 2 2))
  have p8 := (blk_cell HP.out 8).trans (rfl : _ = some (Value.slice none 0 0))
  have hlO := blk_lt HO.out
  have hlP := blk_lt HP.out
  have HR := Aside0.mk (C_ops2 (x := ((nO n m c kk s1, (some ⟨b1, 0, none⟩, 2), (none, 0), (none, 0)) : OpX)) (y := ((nP n m c s1, (none, 0), (some ⟨b3, 0, none⟩, 2), (none, 0)) : OpX)) (blk_new wb (.cells #[.int .i64 4, .int .i64 c, .int .i64 0, .int .i64 0, .int .i64 0, .int .i64 0, .slice (some ⟨b1, 0, none⟩) 2 2, .slice none 0 0, .slice none 0 0, .int .i64 6, .int .i64 c, .int .i64 0, .int .i64 n, .int .i64 0, .int .i64 0, .slice none 0 0, .slice (some ⟨b3, 0, none⟩) 2 2, .slice none 0 0] 30)))
  have HX : Aside0 (∀ x ∈ [((nO n m c kk s1, (some ⟨b1, 0, none⟩, 2), (none, 0), (none, 0)) : OpX), ((nP n m c s1, (none, 0), (some ⟨b3, 0, none⟩, 2), (none, 0)) : OpX)], LiesX wb x ∧ rightD x.1 = true ∧ WfD x.1 ∧ Byt x.1.r) := ⟨fun x hx => by
    simp only [List.mem_cons, List.not_mem_nil, or_false] at hx
    rcases hx with rfl | rfl
    · exact ⟨LO.out, HRO.out, HWO.out, fun y hy => by cases hy⟩
    · exact ⟨LP.out, HRP.out, HWP.out, fun y hy => by cases hy⟩⟩
  have HWr := Aside0.mk (below_alloc HW.out (.cells #[.int .i64 4, .int .i64 c, .int .i64 0, .int .i64 0, .int .i64 0, .int .i64 0, .slice (some ⟨b1, 0, none⟩) 2 2, .slice none 0 0, .slice none 0 0, .int .i64 6, .int .i64 c, .int .i64 0, .int .i64 n, .int .i64 0, .int .i64 0, .slice none 0 0, .slice (some ⟨b3, 0, none⟩) 2 2, .slice none 0 0] 30))
  have HOr := Aside0.mk (blk_alloc HO.out (.cells #[.int .i64 4, .int .i64 c, .int .i64 0, .int .i64 0, .int .i64 0, .int .i64 0, .slice (some ⟨b1, 0, none⟩) 2 2, .slice none 0 0, .slice none 0 0, .int .i64 6, .int .i64 c, .int .i64 0, .int .i64 n, .int .i64 0, .int .i64 0, .slice none 0 0, .slice (some ⟨b3, 0, none⟩) 2 2, .slice none 0 0] 30))
  have HPr := Aside0.mk (blk_alloc HP.out (.cells #[.int .i64 4, .int .i64 c, .int .i64 0, .int .i64 0, .int .i64 0, .int .i64 0, .slice (some ⟨b1, 0, none⟩) 2 2, .slice none 0 0, .slice none 0 0, .int .i64 6, .int .i64 c, .int .i64 0, .int .i64 n, .int .i64 0, .int .i64 0, .slice none 0 0, .slice (some ⟨b3, 0, none⟩) 2 2, .slice none 0 0] 30))
  have HBr := Aside0.mk (below_alloc HWb.out (.cells #[.int .i64 4, .int .i64 c, .int .i64 0, .int .i64 0, .int .i64 0, .int .i64 0, .slice (some ⟨b1, 0, none⟩) 2 2, .slice none 0 0, .slice none 0 0, .int .i64 6, .int .i64 c, .int .i64 0, .int .i64 n, .int .i64 0, .int .i64 0, .slice none 0 0, .slice (some ⟨b3, 0, none⟩) 2 2, .slice none 0 0] 30))
  go_upto_block 0 with fail
  clear q0 q1 q2 q3 q4 q5 q6 q7 q8 p0 p1 p2 p3 p4 p5 p6 p7 p8 hlO hlP
  generalize (wb.alloc (.cells #[.int .i64 4, .int .i64 c, .int .i64 0, .int .i64 0, .int .i64 0, .int .i64 0, .slice (some ⟨b1, 0, none⟩) 2 2, .slice none 0 0, .slice none 0 0, .int .i64 6, .int .i64 c, .int .i64 0, .int .i64 n, .int .i64 0, .int .i64 0, .slice none 0 0, .slice (some ⟨b3, 0, none⟩) 2 2, .slice none 0 0] 30)) = wz at *
  generalize (⟨wb.heap.size, 0, none⟩ : Addr) = ad0 at HR ⊢
  obtain ⟨xs, hxs⟩ : ∃ xs, [((nO n m c kk s1, (some ⟨b1, 0, none⟩, 2), (none, 0), (none, 0)) : OpX), ((nP n m c s1, (none, 0), (some ⟨b3, 0, none⟩, 2), (none, 0)) : OpX)] = xs := ⟨_, rfl⟩
  rw [hxs] at HR HX
  have HXs := Lib.hid hxs
  clear hxs
  go_cut [13] (fun _ wx => Aside0 (Below wz.heap.size wz wx))
  case first =>
    go_wp2_with fail
    go_loopw [57] (fun i wr => ∃ j : Nat, j ≤ 2 ∧ i = .int .i64 (j : Int) ∧ Aside0 (Below wz.heap.size wz wr)) (fun i _ => 2 - (intOf i).toNat)
    case atStart => exact ⟨0, by omega, rfl, ⟨Below.refl _ _⟩⟩
    case round =>
      obtain ⟨j, hj, rfl, HL⟩ := hrel
      by_cases hlt : j < 2
      · obtain ⟨ad, ⟨o, ⟨A6, m6⟩, ⟨A7, m7⟩, ⟨A8, m8⟩⟩, had, hx, d0, d1, d2, d3, d4, d5, d6, d7, d8⟩ := at_Op (Kd.C_below HR.out HL.out) j hlt
        obtain rfl : ad0 = ad := Option.some.inj had
        have hmem := HX.out _ (List.mem_of_getElem? hx)
        have HLo := Aside0.mk (show Lies wr o A6 A7 A8 from Lies.below (Lies.below hmem.1 HBr.out) HL.out)
        have HRo : Hid (rightD o = true) := Lib.hid hmem.2.1
        have HWo : Hid (WfD o) := Lib.hid hmem.2.2.1
        have HBo : Hid (Byt o.r) := Lib.hid hmem.2.2.2
        dsimp only at d0 d1 d2 d3 d4 d5 d6 d7 d8
        clear had hx hmem
        obtain ⟨ob, hob⟩ : ∃ ob, oBy o = ob := ⟨_, rfl⟩
        have hdec : ∀ A c W, Kd.C (Kd.int .u8) W A ob.length ob → Calls Tryd.prog 31 #[.slice A ob.length c] W fun e w' => ∃ B6 n6 B7 n7 B8 n8, e = .returned (.tuple #[.agg #[.int .i64 o.k, .int .i64 o.c, .int .i64 o.q, .int .i64 o.h, .int .i64 o.a, .int .i64 o.t, .slice B6 o.p.length n6, .slice B7 o.s.length n7, .slice B8 o.r.length n8], .nilIface]) ∧ Lies w' o B6 B7 B8 ∧ Below W.heap.size W w' := fun A c W h => by
          have hd := decode_ok A c o W (by rw [hob]; exact h) HRo.out HWo.out HBo.out
          rw [hob] at hd
          refine hd.mono ?_
          rintro e w' ⟨⟨o2, ⟨B6, n6⟩, ⟨B7, n7⟩, ⟨B8, n8⟩⟩, hx, rfl, hL, _, hB⟩
          obtain rfl : o2 = o := hx
          exact ⟨B6, n6, B7, n7, B8, n8, rfl, hL, hB⟩
        have HDec := Lib.hid hdec
        have HOB := Lib.hid hob
        clear hob hdec
        have hqq := blk_new wr (.cells #[.int .i64 o.k, .int .i64 o.c, .int .i64 o.q, .int .i64 o.h, .int .i64 o.a, .int .i64 o.t, .slice A6 o.p.length m6, .slice A7 o.s.length m7, .slice A8 o.r.length m8] 30)
        have HLq := Aside0.mk (Lies.below HLo.out (below_alloc (Below.refl wr.heap.size wr) (.cells #[.int .i64 o.k, .int .i64 o.c, .int .i64 o.q, .int .i64 o.h, .int .i64 o.a, .int .i64 o.t, .slice A6 o.p.length m6, .slice A7 o.s.length m7, .slice A8 o.r.length m8] 30)))
        have HLw := Aside0.mk (below_alloc HL.out (.cells #[.int .i64 o.k, .int .i64 o.c, .int .i64 o.q, .int .i64 o.h, .int .i64 o.a, .int .i64 o.t, .slice A6 o.p.length m6, .slice A7 o.s.length m7, .slice A8 o.r.length m8] 30))
        have HQ := Aside0.mk hqq
        clear hqq HLo
        go_upto_region 7 with fail
        clear d0 d1 d2 d3 d4 d5 d6 d7 d8
        generalize (wr.alloc (.cells #[.int .i64 o.k, .int .i64 o.c, .int .i64 o.q, .int .i64 o.h, .int .i64 o.a, .int .i64 o.t, .slice A6 o.p.length m6, .slice A7 o.s.length m7, .slice A8 o.r.length m8] 30)) = wa at *
        generalize wr.heap.size = bq at *
        have q0 := (blk_cell HQ.out 0).trans (rfl : _ = some (Value.int .i64 o.k))
        have q1 := (blk_cell HQ.out 1).trans (rfl : _ = some (Value.int .i64 o.c))
        have q2 := (blk_cell HQ.out 2).trans (rfl : _ = some (Value.int .i64 o.q))
        have q3 := (blk_cell HQ.out 3).trans (rfl : _ = some (Value.int .i64 o.h))
        have q4 := (blk_cell HQ.out 4).trans (rfl : _ = some (Value.int .i64 o.a))
        have q5 := (blk_cell HQ.out 5).trans (rfl : _ = some (Value.int .i64 o.t))
        have q6 := (blk_cell HQ.out 6).trans (rfl : _ = some (Value.slice A6 o.p.length m6))
        have q7 := (blk_cell HQ.out 7).trans (rfl : _ = some (Value.slice A7 o.s.length m7))
        have q8 := (blk_cell HQ.out 8).trans (rfl : _ = some (Value.slice A8 o.r.length m8))
        have hlq := blk_lt HQ.out
        go_upto_region 8 with (go_at_call 14; refine (enc_right o A6 m6 A7 m7 A8 m8 _ HLq.out HBo.out HRo.out).mono ?_; rintro e w3 ⟨vb, rfl, hR, hB⟩; replace hR : Kd.R (Kd.int .u8) 5 w3 wa.heap.size (fun _ => True) vb (oBy o) := hR; rw [HOB.out] at hR; obtain ⟨Av, cv, rfl, hcv, hCv⟩ := Kd.R_reads hR; have HCV := Aside0.mk hCv; replace HQ := Aside0.mk (blk_below HQ.out hB); replace HLq := Aside0.mk (Lies.below HLq.out hB); replace HLw := Aside0.mk (below_step HLw.out hB); clear hR hB hCv)
        clear q0 q1 q2 q3 q4 q5 q6 q7 q8 hlq
        go_upto_region 9 with (go_at_call 31; refine (HDec.out Av _ _ HCV.out).mono ?_; rintro e w4 ⟨B6, n6, B7, n7, B8, n8, rfl, hL2, hB⟩; have HL2 := Aside0.mk (Lies.below hL2 (below_alloc (Below.refl w4.heap.size w4) (.cells #[.int .i64 o.k, .int .i64 o.c, .int .i64 o.q, .int .i64 o.h, .int .i64 o.a, .int .i64 o.t, .slice B6 o.p.length n6, .slice B7 o.s.length n7, .slice B8 o.r.length n8] 30))); replace HQ := Aside0.mk (blk_alloc (blk_below HQ.out hB) (.cells #[.int .i64 o.k, .int .i64 o.c, .int .i64 o.q, .int .i64 o.h, .int .i64 o.a, .int .i64 o.t, .slice B6 o.p.length n6, .slice B7 o.s.length n7, .slice B8 o.r.length n8] 30)); replace HLq := Aside0.mk (Lies.below (Lies.below HLq.out hB) (below_alloc (Below.refl w4.heap.size w4) (.cells #[.int .i64 o.k, .int .i64 o.c, .int .i64 o.q, .int .i64 o.h, .int .i64 o.a, .int .i64 o.t, .slice B6 o.p.length n6, .slice B7 o.s.length n7, .slice B8 o.r.length n8] 30))); replace HLw := Aside0.mk (below_alloc (below_step HLw.out hB) (.cells #[.int .i64 o.k, .int .i64 o.c, .int .i64 o.q, .int .i64 o.h, .int .i64 o.a, .int .i64 o.t, .slice B6 o.p.length n6, .slice B7 o.s.length n7, .slice B8 o.r.length n8] 30)); have HY := Aside0.mk (blk_new w4 (.cells #[.int .i64 o.k, .int .i64 o.c, .int .i64 o.q, .int .i64 o.h, .int .i64 o.a, .int .i64 o.t, .slice B6 o.p.length n6, .slice B7 o.s.length n7, .slice B8 o.r.length n8] 30)); clear hL2 hB)
        generalize (w4.alloc (.cells #[.int .i64 o.k, .int .i64 o.c, .int .i64 o.q, .int .i64 o.h, .int .i64 o.a, .int .i64 o.t, .slice B6 o.p.length n6, .slice B7 o.s.length n7, .slice B8 o.r.length n8] 30)) = wd at *
        generalize w4.heap.size = by4 at *
        have q0 := (blk_cell HQ.out 0).trans (rfl : _ = some (Value.int .i64 o.k))
        have q1 := (blk_cell HQ.out 1).trans (rfl : _ = some (Value.int .i64 o.c))
        have q2 := (blk_cell HQ.out 2).trans (rfl : _ = some (Value.int .i64 o.q))
        have q3 := (blk_cell HQ.out 3).trans (rfl : _ = some (Value.int .i64 o.h))
        have q4 := (blk_cell HQ.out 4).trans (rfl : _ = some (Value.int .i64 o.a))
        have q5 := (blk_cell HQ.out 5).trans (rfl : _ = some (Value.int .i64 o.t))
        have q6 := (blk_cell HQ.out 6).trans (rfl : _ = some (Value.slice A6 o.p.length m6))
        have q7 := (blk_cell HQ.out 7).trans (rfl : _ = some (Value.slice A7 o.s.length m7))
        have q8 := (blk_cell HQ.out 8).trans (rfl : _ = some (Value.slice A8 o.r.length m8))
        have p0 := (blk_cell HY.out 0).trans (rfl : _ = some (Value.int .i64 o.k))
        have p1 := (blk_cell HY.out 1).trans (rfl : _ = some (Value.int .i64 o.c))
        have p2 := (blk_cell HY.out 2).trans (rfl : _ = some (Value.int .i64 o.q))
        have p3 := (blk_cell HY.out 3).trans (rfl : _ = some (Value.int .i64 o.h))
        have p4 := (blk_cell HY.out 4).trans (rfl : _ = some (Value.int .i64 o.a))
        have p5 := (blk_cell HY.out 5).trans (rfl : _ = some (Value.int .i64 o.t))
        have p6 := (blk_cell HY.out 6).trans (rfl : _ = some (Value.slice B6 o.p.length n6))
        have p7 := (blk_cell HY.out 7).trans (rfl : _ = some (Value.slice B7 o.s.length n7))
        have p8 := (blk_cell HY.out 8).trans (rfl : _ = some (Value.slice B8 o.r.length n8))
        have hlq := blk_lt HQ.out
        have hly := blk_lt HY.out
        have hsame : sameD o o = true := by simp [sameD]
        have HS := Lib.hid hsame
        clear hsame
        go_wp2_with (go_at_call 19; refine (ops_calls o A6 m6 A7 m7 A8 m8 o B6 n6 B7 n7 B8 n8 _ HLq.out HL2.out).mono ?_; rintro e w5 ⟨he, hB⟩; rw [HS.out] at he; subst he; have HLf := Aside0.mk (below_step HLw.out hB); clear hB)
        go_roundw
        case rel => exact ⟨j + 1, by omega, by go_num, HLf⟩
        case measure => simp [intOf]; omega
      · obtain rfl : j = 2 := by omega
        go_wp2_with fail
        go_meet
        case rel => exact HL
  case rest =>
    have HZc := hcut
    clear hcut HX HR HXs HWb
    replace HOr := Aside0.mk (blk_below HOr.out HZc.out)
    replace HPr := Aside0.mk (blk_below HPr.out HZc.out)
    have HWc := Aside0.mk (below_step HWr.out HZc.out)
    have HBc := Aside0.mk (below_step HBr.out HZc.out)
    have hcr := C_ops2 (x := ((nO n m c kk s1, (some ⟨b1, 0, none⟩, 2), (none, 0), (none, 0)) : OpX)) (y := ((nP n m c s1, (none, 0), (some ⟨b3, 0, none⟩, 2), (none, 0)) : OpX)) (blk_new wc (.cells #[.int .i64 4, .int .i64 c, .int .i64 0, .int .i64 0, .int .i64 0, .int .i64 0, .slice (some ⟨b1, 0, none⟩) 2 2, .slice none 0 0, .slice none 0 0, .int .i64 6, .int .i64 c, .int .i64 0, .int .i64 n, .int .i64 0, .int .i64 0, .slice none 0 0, .slice (some ⟨b3, 0, none⟩) 2 2, .slice none 0 0] 30))
    have hall : ∀ W, Kd.C kOp W (some ⟨wc.heap.size, 0, none⟩) 2 [((nO n m c kk s1, (some ⟨b1, 0, none⟩, 2), (none, 0), (none, 0)) : OpX), ((nP n m c s1, (none, 0), (some ⟨b3, 0, none⟩, 2), (none, 0)) : OpX)] → LiesX W ((nO n m c kk s1, (some ⟨b1, 0, none⟩, 2), (none, 0), (none, 0)) : OpX) → LiesX W ((nP n m c s1, (none, 0), (some ⟨b3, 0, none⟩, 2), (none, 0)) : OpX) → Calls Tryd.prog 32 #[.slice (some ⟨wc.heap.size, 0, none⟩) 2 2] W fun e w' => ∃ v, e = .returned (.tuple #[v, .nilIface]) ∧ Kd.R (Kd.int .u8) 5 w' W.heap.size (fun _ => True) v (scB [nO n m c kk s1, nP n m c s1]) ∧ Below W.heap.size W w' := fun W h k1 k2 => all_calls (some ⟨wc.heap.size, 0, none⟩) 2 [((nO n m c kk s1, (some ⟨b1, 0, none⟩, 2), (none, 0), (none, 0)) : OpX), ((nP n m c s1, (none, 0), (some ⟨b3, 0, none⟩, 2), (none, 0)) : OpX)] W h (fun x hx => by simp only [List.mem_cons, List.not_mem_nil, or_false] at hx; rcases hx with rfl | rfl; exact k1; exact k2) (fun x hx => by simp only [List.mem_cons, List.not_mem_nil, or_false] at hx; rcases hx with rfl | rfl; exact (fun y hy => by cases hy); exact (fun y hy => by cases hy)) (fun x hx => by simp only [List.mem_cons, List.not_mem_nil, or_false] at hx; rcases hx with rfl | rfl; exact HRO.out; exact HRP.out) (by simp)
    have HAll := Lib.hid hall
    have hspl : ∀ A cc W, Kd.C (Kd.int .u8) W A (scB [nO n m c kk s1, nP n m c s1]).length (scB [nO n m c kk s1, nP n m c s1]) → (scB [nO n m c kk s1, nP n m c s1]).length ≤ cc → Calls Tryd.prog 33 #[.slice A (scB [nO n m c kk s1, nP n m c s1]).length cc] W fun e w' => ∃ (adL : Addr) (cO : Nat) (y0 y1 : OpX), e = .returned (.tuple #[.slice (some adL) 2 cO, .nilIface]) ∧ Kd.C kOp w' (some adL) 2 [y0, y1] ∧ y0.1 = nO n m c kk s1 ∧ y1.1 = nP n m c s1 ∧ LiesX w' y0 ∧ LiesX w' y1 ∧ Below W.heap.size W w' := fun A cc W h hcc => split_two A cc W h hcc HRO.out HRP.out HWO.out HWP.out (fun y hy => by cases hy) (fun y hy => by cases hy)
    have HSpl := Lib.hid hspl
    clear hall hspl
    have HLO1 := Aside0.mk (show LiesX (wc.alloc (.cells #[.int .i64 4, .int .i64 c, .int .i64 0, .int .i64 0, .int .i64 0, .int .i64 0, .slice (some ⟨b1, 0, none⟩) 2 2, .slice none 0 0, .slice none 0 0, .int .i64 6, .int .i64 c, .int .i64 0, .int .i64 n, .int .i64 0, .int .i64 0, .slice none 0 0, .slice (some ⟨b3, 0, none⟩) 2 2, .slice none 0 0] 30)) ((nO n m c kk s1, (some ⟨b1, 0, none⟩, 2), (none, 0), (none, 0)) : OpX) from Lies.below (Lies.below LO.out HBc.out) (below_alloc (Below.refl wc.heap.size wc) (.cells #[.int .i64 4, .int .i64 c, .int .i64 0, .int .i64 0, .int .i64 0, .int .i64 0, .slice (some ⟨b1, 0, none⟩) 2 2, .slice none 0 0, .slice none 0 0, .int .i64 6, .int .i64 c, .int .i64 0, .int .i64 n, .int .i64 0, .int .i64 0, .slice none 0 0, .slice (some ⟨b3, 0, none⟩) 2 2, .slice none 0 0] 30)))
    have HLP1 := Aside0.mk (show LiesX (wc.alloc (.cells #[.int .i64 4, .int .i64 c, .int .i64 0, .int .i64 0, .int .i64 0, .int .i64 0, .slice (some ⟨b1, 0, none⟩) 2 2, .slice none 0 0, .slice none 0 0, .int .i64 6, .int .i64 c, .int .i64 0, .int .i64 n, .int .i64 0, .int .i64 0, .slice none 0 0, .slice (some ⟨b3, 0, none⟩) 2 2, .slice none 0 0] 30)) ((nP n m c s1, (none, 0), (some ⟨b3, 0, none⟩, 2), (none, 0)) : OpX) from Lies.below (Lies.below LP.out HBc.out) (below_alloc (Below.refl wc.heap.size wc) (.cells #[.int .i64 4, .int .i64 c, .int .i64 0, .int .i64 0, .int .i64 0, .int .i64 0, .slice (some ⟨b1, 0, none⟩) 2 2, .slice none 0 0, .slice none 0 0, .int .i64 6, .int .i64 c, .int .i64 0, .int .i64 n, .int .i64 0, .int .i64 0, .slice none 0 0, .slice (some ⟨b3, 0, none⟩) 2 2, .slice none 0 0] 30)))
    have HCR := Aside0.mk hcr
    clear hcr
    have q0 := (blk_cell HOr.out 0).trans (rfl : _ = some (Value.int .i64 4))
    have q1 := (blk_cell HOr.out 1).trans (rfl : _ = some (Value.int .i64 c))
    have q2 := (blk_cell HOr.out 2).trans (rfl : _ = some (Value.int .i64 0))
    have q3 := (blk_cell HOr.out 3).trans (rfl : _ = some (Value.int .i64 0))
    have q4 := (blk_cell HOr.out 4).trans (rfl : _ = some (Value.int .i64 0))
    have q5 := (blk_cell HOr.out 5).trans (rfl : _ = some (Value.int .i64 0))
    have q6 := (blk_cell HOr.out 6).trans (rfl : _ = some (Value.slice (some ⟨b1, 0, none⟩) 2 2))
    have q7 := (blk_cell HOr.out 7).trans (rfl : _ = some (Value.slice none 0 0))
    have q8 := (blk_cell HOr.out 8).trans (rfl : _ = some (Value.slice none 0 0))
    have p0 := (blk_cell HPr.out 0).trans (rfl : _ = some (Value.int .i64 6))
    have p1 := (blk_cell HPr.out 1).trans (rfl : _ = some (Value.int .i64 c))
    have p2 := (blk_cell HPr.out 2).trans (rfl : _ = some (Value.int .i64 0))
    have p3 := (blk_cell HPr.out 3).trans (rfl : _ = some (Value.int .i64 n))
    have p4 := (blk_cell HPr.out 4).trans (rfl : _ = some (Value.int .i64 0))
    have p5 := (blk_cell HPr.out 5).trans (rfl : _ = some (Value.int .i64 0))
    have p6 := (blk_cell HPr.out 6).trans (rfl : _ = some (Value.slice none 0 0))
    have p7 := (blk_cell HPr.out 7).trans (rfl : _ = some (Value.slice (some ⟨b3, 0, none⟩) 2 2))
    have p8 := (blk_cell HPr.out 8).trans (rfl : _ = some (Value.slice none 0 0))
    have hlO := blk_lt HOr.out
    have hlP := blk_lt HPr.out
    replace HWc := Aside0.mk (below_alloc HWc.out (.cells #[.int .i64 4, .int .i64 c, .int .i64 0, .int .i64 0, .int .i64 0, .int .i64 0, .slice (some ⟨b1, 0, none⟩) 2 2, .slice none 0 0, .slice none 0 0, .int .i64 6, .int .i64 c, .int .i64 0, .int .i64 n, .int .i64 0, .int .i64 0, .slice none 0 0, .slice (some ⟨b3, 0, none⟩) 2 2, .slice none 0 0] 30))
    replace HOr := Aside0.mk (blk_alloc HOr.out (.cells #[.int .i64 4, .int .i64 c, .int .i64 0, .int .i64 0, .int .i64 0, .int .i64 0, .slice (some ⟨b1, 0, none⟩) 2 2, .slice none 0 0, .slice none 0 0, .int .i64 6, .int .i64 c, .int .i64 0, .int .i64 n, .int .i64 0, .int .i64 0, .slice none 0 0, .slice (some ⟨b3, 0, none⟩) 2 2, .slice none 0 0] 30))
    replace HPr := Aside0.mk (blk_alloc HPr.out (.cells #[.int .i64 4, .int .i64 c, .int .i64 0, .int .i64 0, .int .i64 0, .int .i64 0, .slice (some ⟨b1, 0, none⟩) 2 2, .slice none 0 0, .slice none 0 0, .int .i64 6, .int .i64 c, .int .i64 0, .int .i64 n, .int .i64 0, .int .i64 0, .slice none 0 0, .slice (some ⟨b3, 0, none⟩) 2 2, .slice none 0 0] 30))
    generalize hos : scB [nO n m c kk s1, nP n m c s1] = bs at HAll HSpl
    clear hos
    go_upto_region 13 with (go_at_call 32; refine (HAll.out _ HCR.out HLO1.out HLP1.out).mono ?_; rintro e w6 ⟨v, rfl, hR, hB⟩; obtain ⟨Av, cv, rfl, hcv, hCv⟩ := Kd.R_reads hR; have HCV := Aside0.mk hCv; replace HWc := Aside0.mk (below_step HWc.out hB); replace HOr := Aside0.mk (blk_below HOr.out hB); replace HPr := Aside0.mk (blk_below HPr.out hB); replace HLO1 := Aside0.mk (Lies.below HLO1.out hB); replace HLP1 := Aside0.mk (Lies.below HLP1.out hB); clear hR hCv hB)
    clear q0 q1 q2 q3 q4 q5 q6 q7 q8 p0 p1 p2 p3 p4 p5 p6 p7 p8 hlO hlP
    go_upto_region 14 with (go_at_call 33; refine (HSpl.out Av _ _ HCV.out hcv).mono ?_; rintro e w7 ⟨adL, cO, ⟨u0, ⟨C6, Cm6⟩, ⟨C7, Cm7⟩, ⟨C8, Cm8⟩⟩, ⟨u1, ⟨D6, Dm6⟩, ⟨D7, Dm7⟩, ⟨D8, Dm8⟩⟩, rfl, hCL, hu0, hu1, hl0, hl1, hB⟩; have HCL := Aside0.mk hCL; have HU0 : Hid (u0 = nO n m c kk s1) := Lib.hid hu0; have HU1 : Hid (u1 = nP n m c s1) := Lib.hid hu1; have LU0 : Aside0 (Lies w7 u0 C6 C7 C8) := Aside0.mk hl0; have LU1 : Aside0 (Lies w7 u1 D6 D7 D8) := Aside0.mk hl1; replace HWc := Aside0.mk (below_step HWc.out hB); replace HOr := Aside0.mk (blk_below HOr.out hB); replace HPr := Aside0.mk (blk_below HPr.out hB); replace HLO1 := Aside0.mk (Lies.below HLO1.out hB); replace HLP1 := Aside0.mk (Lies.below HLP1.out hB); clear hCL hu0 hu1 hl0 hl1 hB)
    go_upto_region 15 with (go_at_call 33; refine (split_none _).mono ?_; rintro e wk ⟨aN, cN, rfl, hB⟩; replace HCL := Aside0.mk (Kd.C_below HCL.out hB); replace LU0 := Aside0.mk (Lies.below LU0.out hB); replace LU1 := Aside0.mk (Lies.below LU1.out hB); replace HWc := Aside0.mk (below_step HWc.out hB); have HOk := Aside0.mk (blk_below HOr.out hB); have HPk := Aside0.mk (blk_below HPr.out hB); have LOk := Aside0.mk (Lies.below HLO1.out hB); have LPk := Aside0.mk (Lies.below HLP1.out hB); have HGk := Aside0.mk (Go.Proofs.YtbplemhjhpfkgaaDoor.Ft.Door.below HG.out HWc.out); clear hB)
    have BU0 : Hid (Byt u0.r) := Lib.hid (by rw [HU0.out]; exact fun y hy => by cases hy)
    have BU1 : Hid (Byt u1.r) := Lib.hid (by rw [HU1.out]; exact fun y hy => by cases hy)
    have BU0S : Hid (sameD u0 (nO n m c kk s1) = true) := Lib.hid (by rw [HU0.out]; simp [sameD])
    have BU1S : Hid (sameD u1 (nP n m c s1) = true) := Lib.hid (by rw [HU1.out]; simp [sameD])
    have HD0 := Aside0.mk (op_at0 HCL.out)
    have HD1 := Aside0.mk (op_at1 HCL.out)
    have HW := Aside0.mk (Below.refl wk.heap.size wk)
    clear HAll HSpl HOr HPr HLO1 HLP1 HCL HU0 HU1
    refine start_ (n := 38) (S := fun w' => True) (ds := []) #[false, false, false, false, false, false, false, false, false, false, false, false, false, false, false, false, false, false, false, false, false, false, false, false, false, false, false, false, false, false, false, false, false, false, false, false, false, false] (by kernel_rfl) rfl rfl trivial (fun hHeld => ?_)
    refine with_tabW cnReg.tab15 cnReg.bits15 (fun HT_ HW_ => ?_)
    refine pure_ (i := 0) (N := some 100) (v := ?_) (a' := ?_) #[true, false, false, false, false, false, false, false, false, false, false, false, false, false, false, false, false, false, false, false, false, false, false, false, false, false, false, false, false, false, false, false, false, false, false, false, false, false] rfl rfl (any_of HT_.out (by kernel_rfl)) (fun _ _ _ h => h) (Or.inl ⟨by rfl, ?_⟩) ?_ ?_
    rotate_left
    · intro w'
      go_simp
      with_reducible rfl
    rotate_left
    · simp only [Act.put, List.setIfInBounds_toArray, List.set_cons_zero, List.set_cons_succ, i64_w, i32_w]
      rfl
    refine inv_at [1, 2, 3, 4, 5, 6, 7, 8, 9, 10, 11, 12, 13, 14, 15, 16, 17, 18, 19, 20, 21, 22, 23, 24, 25, 26, 27, 28, 29, 30, 31, 32, 33, 34, 35, 36, 37] (fun a0_ b a w' => a = putSel a0_ b [(1, 101, .bool true), (2, 102, .bool true), (3, 103, .nilIface), (4, 104, .bool true), (5, 105, .bool true), (6, 106, .bool true), (7, 107, .slice (some adL) 2 cO), (8, 108, .int .i64 2), (9, 109, .bool true), (10, 110, .bool true), (11, 111, .bool true), (12, 112, .slice (some adL) 2 cO), (13, 113, .pointer (some adL)), (14, 114, .agg #[.int .i64 u0.k, .int .i64 u0.c, .int .i64 u0.q, .int .i64 u0.h, .int .i64 u0.a, .int .i64 u0.t, .slice C6 u0.p.length Cm6, .slice C7 u0.s.length Cm7, .slice C8 u0.r.length Cm8]), (15, 115, .agg #[.int .i64 4, .int .i64 c, .int .i64 0, .int .i64 0, .int .i64 0, .int .i64 0, .slice (some ⟨b1, 0, none⟩) 2 2, .slice none 0 0, .slice none 0 0]), (16, 116, .bool true), (17, 117, .bool true), (18, 118, .bool true), (19, 119, .slice (some adL) 2 cO), (20, 120, .pointer (some (adL.add 9))), (21, 121, .agg #[.int .i64 u1.k, .int .i64 u1.c, .int .i64 u1.q, .int .i64 u1.h, .int .i64 u1.a, .int .i64 u1.t, .slice D6 u1.p.length Dm6, .slice D7 u1.s.length Dm7, .slice D8 u1.r.length Dm8]), (22, 122, .agg #[.int .i64 6, .int .i64 c, .int .i64 0, .int .i64 n, .int .i64 0, .int .i64 0, .slice none 0 0, .slice (some ⟨b3, 0, none⟩) 2 2, .slice none 0 0]), (23, 123, .bool true), (24, 124, .bool true), (25, 125, .bool true), (26, 126, .nilIface), (27, 127, .bool true), (28, 128, .bool true), (29, 129, .bool true), (30, 130, .slice aN 0 cN), (31, 131, .int .i64 0), (32, 132, .bool true), (33, 133, .bool true), (34, 134, .bool true), (35, 135, .bool true), (36, 136, .bool true), (37, 10, .bool true)] ∧ (Below wk.heap.size wk w')) HT_.out HW_.out (by kernel_rfl) (by kernel_rfl) ?_ ?_ ?_
    · exact ⟨by simp only [putSel, Bool.false_eq_true, if_false], below_drew HW.out⟩
    · skip
      clear HW
      refine steps_cons ?_ ?_
      · rintro b a w' ⟨ha, Q_HW⟩ hb_ hon hoff
        refine ⟨_, rfl, fun K hK => ?_⟩
        have e100 : a.tmps[100]? = some (.nilIface) := by rw [ha]; exact (putSel_off rfl).trans rfl
        replace ha := Aside0.mk ha
        have HW := Aside0.mk Q_HW
        refine value_ (w1 := w') (v := .bool true) (by rfl) rfl ?_ ?_
        · go_simp
          (try simp only [i64_w])
          try rfl
        refine hK.out _ _ ⟨(by rw [ha.out]; exact putSel_upk 0 hb_ rfl rfl rfl), Q_HW⟩
      refine steps_cons ?_ ?_
      · rintro b a w' ⟨ha, Q_HW⟩ hb_ hon hoff
        refine ⟨_, rfl, fun K hK => ?_⟩
        have e101 : a.tmps[101]? = some (.bool true) := by rw [ha]; exact putSel_on (e := (1, 101, .bool true)) 0 rfl rfl (hon 1 (by kernel_rfl)) rfl
        replace ha := Aside0.mk ha
        have HW := Aside0.mk Q_HW
        refine value_ (w1 := w') (v := .bool true) (by rfl) rfl ?_ ?_
        · go_simp
          (try simp only [i64_w])
          try rfl
        refine hK.out _ _ ⟨(by rw [ha.out]; exact putSel_upk 1 hb_ rfl rfl rfl), Q_HW⟩
      refine steps_cons ?_ ?_
      · rintro b a w' ⟨ha, Q_HW⟩ hb_ hon hoff
        refine ⟨_, rfl, fun K hK => ?_⟩
        have e22 : a.tmps[22]? = some (.nilIface) := by rw [ha]; exact (putSel_off rfl).trans rfl
        have e102 : a.tmps[102]? = some (.bool true) := by rw [ha]; exact putSel_on (e := (2, 102, .bool true)) 1 rfl rfl (hon 2 (by kernel_rfl)) rfl
        replace ha := Aside0.mk ha
        have HW := Aside0.mk Q_HW
        refine value_ (w1 := w') (v := .nilIface) (wanted_on rfl rfl rfl (e102.trans (by first | rfl | (simp [*]; done)))) rfl ?_ ?_
        · go_simp
          (try simp only [i64_w])
          try rfl
        refine hK.out _ _ ⟨(by rw [ha.out]; exact putSel_upk 2 hb_ rfl rfl rfl), Q_HW⟩
      refine steps_cons ?_ ?_
      · rintro b a w' ⟨ha, Q_HW⟩ hb_ hon hoff
        refine ⟨_, rfl, fun K hK => ?_⟩
        have e103 : a.tmps[103]? = some (.nilIface) := by rw [ha]; exact putSel_on (e := (3, 103, .nilIface)) 2 rfl rfl (hon 3 (by kernel_rfl)) rfl
        have e102 : a.tmps[102]? = some (.bool true) := by rw [ha]; exact putSel_on (e := (2, 102, .bool true)) 1 rfl rfl (hon 2 (by kernel_rfl)) rfl
        replace ha := Aside0.mk ha
        have HW := Aside0.mk Q_HW
        refine value_ (w1 := w') (v := .bool true) (wanted_on rfl rfl rfl (e102.trans (by first | rfl | (simp [*]; done)))) rfl ?_ ?_
        · go_simp
          (try simp only [i64_w])
          try rfl
        refine hK.out _ _ ⟨(by rw [ha.out]; exact putSel_upk 3 hb_ rfl rfl rfl), Q_HW⟩
      refine steps_cons ?_ ?_
      · rintro b a w' ⟨ha, Q_HW⟩ hb_ hon hoff
        refine ⟨_, rfl, fun K hK => ?_⟩
        have e102 : a.tmps[102]? = some (.bool true) := by rw [ha]; exact putSel_on (e := (2, 102, .bool true)) 1 rfl rfl (hon 2 (by kernel_rfl)) rfl
        have e104 : a.tmps[104]? = some (.bool true) := by rw [ha]; exact putSel_on (e := (4, 104, .bool true)) 3 rfl rfl (hon 4 (by kernel_rfl)) rfl
        replace ha := Aside0.mk ha
        have HW := Aside0.mk Q_HW
        refine value_ (w1 := w') (v := .bool true) (by rfl) rfl ?_ ?_
        · go_simp
          (try simp only [i64_w])
          try rfl
        refine hK.out _ _ ⟨(by rw [ha.out]; exact putSel_upk 4 hb_ rfl rfl rfl), Q_HW⟩
      refine steps_cons ?_ ?_
      · rintro b a w' ⟨ha, Q_HW⟩ hb_ hon hoff
        refine ⟨_, rfl, fun K hK => ?_⟩
        have e105 : a.tmps[105]? = some (.bool true) := by rw [ha]; exact putSel_on (e := (5, 105, .bool true)) 4 rfl rfl (hon 5 (by kernel_rfl)) rfl
        replace ha := Aside0.mk ha
        have HW := Aside0.mk Q_HW
        refine value_ (w1 := w') (v := .bool true) (by rfl) rfl ?_ ?_
        · go_simp
          (try simp only [i64_w])
          try rfl
        refine hK.out _ _ ⟨(by rw [ha.out]; exact putSel_upk 5 hb_ rfl rfl rfl), Q_HW⟩
      refine steps_cons ?_ ?_
      · rintro b a w' ⟨ha, Q_HW⟩ hb_ hon hoff
        refine ⟨_, rfl, fun K hK => ?_⟩
        have e21 : a.tmps[21]? = some (.slice (some adL) 2 cO) := by rw [ha]; exact (putSel_off rfl).trans rfl
        have e106 : a.tmps[106]? = some (.bool true) := by rw [ha]; exact putSel_on (e := (6, 106, .bool true)) 5 rfl rfl (hon 6 (by kernel_rfl)) rfl
        replace ha := Aside0.mk ha
        have HW := Aside0.mk Q_HW
        refine value_ (w1 := w') (v := .slice (some adL) 2 cO) (wanted_on rfl rfl rfl (e106.trans (by first | rfl | (simp [*]; done)))) rfl ?_ ?_
        · go_simp
          (try simp only [i64_w])
          try rfl
        refine hK.out _ _ ⟨(by rw [ha.out]; exact putSel_upk 6 hb_ rfl rfl rfl), Q_HW⟩
      refine steps_cons ?_ ?_
      · rintro b a w' ⟨ha, Q_HW⟩ hb_ hon hoff
        refine ⟨_, rfl, fun K hK => ?_⟩
        have e107 : a.tmps[107]? = some (.slice (some adL) 2 cO) := by rw [ha]; exact putSel_on (e := (7, 107, .slice (some adL) 2 cO)) 6 rfl rfl (hon 7 (by kernel_rfl)) rfl
        have e106 : a.tmps[106]? = some (.bool true) := by rw [ha]; exact putSel_on (e := (6, 106, .bool true)) 5 rfl rfl (hon 6 (by kernel_rfl)) rfl
        replace ha := Aside0.mk ha
        have HW := Aside0.mk Q_HW
        refine value_ (w1 := w') (v := .int .i64 2) (wanted_on rfl rfl rfl (e106.trans (by first | rfl | (simp [*]; done)))) rfl ?_ ?_
        · go_simp
          (try simp only [i64_w])
          try rfl
        refine hK.out _ _ ⟨(by rw [ha.out]; exact putSel_upk 7 hb_ rfl rfl rfl), Q_HW⟩
      refine steps_cons ?_ ?_
      · rintro b a w' ⟨ha, Q_HW⟩ hb_ hon hoff
        refine ⟨_, rfl, fun K hK => ?_⟩
        have e108 : a.tmps[108]? = some (.int .i64 2) := by rw [ha]; exact putSel_on (e := (8, 108, .int .i64 2)) 7 rfl rfl (hon 8 (by kernel_rfl)) rfl
        have e106 : a.tmps[106]? = some (.bool true) := by rw [ha]; exact putSel_on (e := (6, 106, .bool true)) 5 rfl rfl (hon 6 (by kernel_rfl)) rfl
        replace ha := Aside0.mk ha
        have HW := Aside0.mk Q_HW
        refine value_ (w1 := w') (v := .bool true) (wanted_on rfl rfl rfl (e106.trans (by first | rfl | (simp [*]; done)))) rfl ?_ ?_
        · go_simp
          (try simp only [i64_w])
          try rfl
        refine hK.out _ _ ⟨(by rw [ha.out]; exact putSel_upk 8 hb_ rfl rfl rfl), Q_HW⟩
      refine steps_cons ?_ ?_
      · rintro b a w' ⟨ha, Q_HW⟩ hb_ hon hoff
        refine ⟨_, rfl, fun K hK => ?_⟩
        have e106 : a.tmps[106]? = some (.bool true) := by rw [ha]; exact putSel_on (e := (6, 106, .bool true)) 5 rfl rfl (hon 6 (by kernel_rfl)) rfl
        have e109 : a.tmps[109]? = some (.bool true) := by rw [ha]; exact putSel_on (e := (9, 109, .bool true)) 8 rfl rfl (hon 9 (by kernel_rfl)) rfl
        replace ha := Aside0.mk ha
        have HW := Aside0.mk Q_HW
        refine value_ (w1 := w') (v := .bool true) (by rfl) rfl ?_ ?_
        · go_simp
          (try simp only [i64_w])
          try rfl
        refine hK.out _ _ ⟨(by rw [ha.out]; exact putSel_upk 9 hb_ rfl rfl rfl), Q_HW⟩
      refine steps_cons ?_ ?_
      · rintro b a w' ⟨ha, Q_HW⟩ hb_ hon hoff
        refine ⟨_, rfl, fun K hK => ?_⟩
        have e110 : a.tmps[110]? = some (.bool true) := by rw [ha]; exact putSel_on (e := (10, 110, .bool true)) 9 rfl rfl (hon 10 (by kernel_rfl)) rfl
        replace ha := Aside0.mk ha
        have HW := Aside0.mk Q_HW
        refine value_ (w1 := w') (v := .bool true) (by rfl) rfl ?_ ?_
        · go_simp
          (try simp only [i64_w])
          try rfl
        refine hK.out _ _ ⟨(by rw [ha.out]; exact putSel_upk 10 hb_ rfl rfl rfl), Q_HW⟩
      refine steps_cons ?_ ?_
      · rintro b a w' ⟨ha, Q_HW⟩ hb_ hon hoff
        refine ⟨_, rfl, fun K hK => ?_⟩
        have e21 : a.tmps[21]? = some (.slice (some adL) 2 cO) := by rw [ha]; exact (putSel_off rfl).trans rfl
        have e111 : a.tmps[111]? = some (.bool true) := by rw [ha]; exact putSel_on (e := (11, 111, .bool true)) 10 rfl rfl (hon 11 (by kernel_rfl)) rfl
        replace ha := Aside0.mk ha
        have HW := Aside0.mk Q_HW
        refine value_ (w1 := w') (v := .slice (some adL) 2 cO) (wanted_on rfl rfl rfl (e111.trans (by first | rfl | (simp [*]; done)))) rfl ?_ ?_
        · go_simp
          (try simp only [i64_w])
          try rfl
        refine hK.out _ _ ⟨(by rw [ha.out]; exact putSel_upk 11 hb_ rfl rfl rfl), Q_HW⟩
      refine steps_cons ?_ ?_
      · rintro b a w' ⟨ha, Q_HW⟩ hb_ hon hoff
        refine ⟨_, rfl, fun K hK => ?_⟩
        have e112 : a.tmps[112]? = some (.slice (some adL) 2 cO) := by rw [ha]; exact putSel_on (e := (12, 112, .slice (some adL) 2 cO)) 11 rfl rfl (hon 12 (by kernel_rfl)) rfl
        have e111 : a.tmps[111]? = some (.bool true) := by rw [ha]; exact putSel_on (e := (11, 111, .bool true)) 10 rfl rfl (hon 11 (by kernel_rfl)) rfl
        replace ha := Aside0.mk ha
        have HW := Aside0.mk Q_HW
        refine value_ (w1 := w') (v := .pointer (some adL)) (wanted_on rfl rfl rfl (e111.trans (by first | rfl | (simp [*]; done)))) rfl ?_ ?_
        · go_simp
          (try simp only [i64_w])
          try rfl
        refine hK.out _ _ ⟨(by rw [ha.out]; exact putSel_upk 12 hb_ rfl rfl rfl), Q_HW⟩
      refine steps_cons ?_ ?_
      · rintro b a w' ⟨ha, Q_HW⟩ hb_ hon hoff
        refine ⟨_, rfl, fun K hK => ?_⟩
        have e113 : a.tmps[113]? = some (.pointer (some adL)) := by rw [ha]; exact putSel_on (e := (13, 113, .pointer (some adL))) 12 rfl rfl (hon 13 (by kernel_rfl)) rfl
        have e111 : a.tmps[111]? = some (.bool true) := by rw [ha]; exact putSel_on (e := (11, 111, .bool true)) 10 rfl rfl (hon 11 (by kernel_rfl)) rfl
        replace ha := Aside0.mk ha
        have HW := Aside0.mk Q_HW
        have q0 := cells_at HW.out HD0.out.1
        have q1 := cells_at HW.out HD0.out.2.1
        have q2 := cells_at HW.out HD0.out.2.2.1
        have q3 := cells_at HW.out HD0.out.2.2.2.1
        have q4 := cells_at HW.out HD0.out.2.2.2.2.1
        have q5 := cells_at HW.out HD0.out.2.2.2.2.2.1
        have q6 := cells_at HW.out HD0.out.2.2.2.2.2.2.1
        have q7 := cells_at HW.out HD0.out.2.2.2.2.2.2.2.1
        have q8 := cells_at HW.out HD0.out.2.2.2.2.2.2.2.2
        refine value_ (w1 := w') (v := .agg #[.int .i64 u0.k, .int .i64 u0.c, .int .i64 u0.q, .int .i64 u0.h, .int .i64 u0.a, .int .i64 u0.t, .slice C6 u0.p.length Cm6, .slice C7 u0.s.length Cm7, .slice C8 u0.r.length Cm8]) (wanted_on rfl rfl rfl (e111.trans (by first | rfl | (simp [*]; done)))) rfl ?_ ?_
        · go_simp
          (try simp only [i64_w])
          try rfl
        refine hK.out _ _ ⟨(by rw [ha.out]; exact putSel_upk 13 hb_ rfl rfl rfl), Q_HW⟩
      refine steps_cons ?_ ?_
      · rintro b a w' ⟨ha, Q_HW⟩ hb_ hon hoff
        refine ⟨_, rfl, fun K hK => ?_⟩
        have e11 : a.tmps[11]? = some (.pointer (some ⟨bO, 0, none⟩)) := by rw [ha]; exact (putSel_off rfl).trans rfl
        have e111 : a.tmps[111]? = some (.bool true) := by rw [ha]; exact putSel_on (e := (11, 111, .bool true)) 10 rfl rfl (hon 11 (by kernel_rfl)) rfl
        replace ha := Aside0.mk ha
        have HW := Aside0.mk Q_HW
        have q0 := (blk_cell (blk_below HOk.out HW.out) 0).trans (rfl : _ = some (Value.int .i64 4))
        have q1 := (blk_cell (blk_below HOk.out HW.out) 1).trans (rfl : _ = some (Value.int .i64 c))
        have q2 := (blk_cell (blk_below HOk.out HW.out) 2).trans (rfl : _ = some (Value.int .i64 0))
        have q3 := (blk_cell (blk_below HOk.out HW.out) 3).trans (rfl : _ = some (Value.int .i64 0))
        have q4 := (blk_cell (blk_below HOk.out HW.out) 4).trans (rfl : _ = some (Value.int .i64 0))
        have q5 := (blk_cell (blk_below HOk.out HW.out) 5).trans (rfl : _ = some (Value.int .i64 0))
        have q6 := (blk_cell (blk_below HOk.out HW.out) 6).trans (rfl : _ = some (Value.slice (some ⟨b1, 0, none⟩) 2 2))
        have q7 := (blk_cell (blk_below HOk.out HW.out) 7).trans (rfl : _ = some (Value.slice none 0 0))
        have q8 := (blk_cell (blk_below HOk.out HW.out) 8).trans (rfl : _ = some (Value.slice none 0 0))
        refine value_ (w1 := w') (v := .agg #[.int .i64 4, .int .i64 c, .int .i64 0, .int .i64 0, .int .i64 0, .int .i64 0, .slice (some ⟨b1, 0, none⟩) 2 2, .slice none 0 0, .slice none 0 0]) (wanted_on rfl rfl rfl (e111.trans (by first | rfl | (simp [*]; done)))) rfl ?_ ?_
        · go_simp
          (try simp only [i64_w])
          try rfl
        refine hK.out _ _ ⟨(by rw [ha.out]; exact putSel_upk 14 hb_ rfl rfl rfl), Q_HW⟩
      refine steps_cons ?_ ?_
      · rintro b a w' ⟨ha, Q_HW⟩ hb_ hon hoff
        refine ⟨_, rfl, fun K hK => ?_⟩
        have e114 : a.tmps[114]? = some (.agg #[.int .i64 u0.k, .int .i64 u0.c, .int .i64 u0.q, .int .i64 u0.h, .int .i64 u0.a, .int .i64 u0.t, .slice C6 u0.p.length Cm6, .slice C7 u0.s.length Cm7, .slice C8 u0.r.length Cm8]) := by rw [ha]; exact putSel_on (e := (14, 114, .agg #[.int .i64 u0.k, .int .i64 u0.c, .int .i64 u0.q, .int .i64 u0.h, .int .i64 u0.a, .int .i64 u0.t, .slice C6 u0.p.length Cm6, .slice C7 u0.s.length Cm7, .slice C8 u0.r.length Cm8])) 13 rfl rfl (hon 14 (by kernel_rfl)) rfl
        have e115 : a.tmps[115]? = some (.agg #[.int .i64 4, .int .i64 c, .int .i64 0, .int .i64 0, .int .i64 0, .int .i64 0, .slice (some ⟨b1, 0, none⟩) 2 2, .slice none 0 0, .slice none 0 0]) := by rw [ha]; exact putSel_on (e := (15, 115, .agg #[.int .i64 4, .int .i64 c, .int .i64 0, .int .i64 0, .int .i64 0, .int .i64 0, .slice (some ⟨b1, 0, none⟩) 2 2, .slice none 0 0, .slice none 0 0])) 14 rfl rfl (hon 15 (by kernel_rfl)) rfl
        have e111 : a.tmps[111]? = some (.bool true) := by rw [ha]; exact putSel_on (e := (11, 111, .bool true)) 10 rfl rfl (hon 11 (by kernel_rfl)) rfl
        replace ha := Aside0.mk ha
        have HW := Aside0.mk Q_HW
        refine goes_ Tryd.func29 (by kernel_rfl) rfl #[.agg #[.int .i64 u0.k, .int .i64 u0.c, .int .i64 u0.q, .int .i64 u0.h, .int .i64 u0.a, .int .i64 u0.t, .slice C6 u0.p.length Cm6, .slice C7 u0.s.length Cm7, .slice C8 u0.r.length Cm8], .agg #[.int .i64 4, .int .i64 c, .int .i64 0, .int .i64 0, .int .i64 0, .int .i64 0, .slice (some ⟨b1, 0, none⟩) 2 2, .slice none 0 0, .slice none 0 0]] (wanted_on rfl rfl rfl e111) rfl rfl (by simp only [List.map_toArray, List.map_cons, List.map_nil, Act.eval, Array.getD_eq_getD_getElem?, Option.getD_some, e114, e115]) ?_
        refine (same_calls u0 C6 Cm6 C7 Cm7 C8 Cm8 (nO n m c kk s1) (some ⟨b1, 0, none⟩) 2 none 0 none 0 w' (Lies.below LU0.out HW.out) (Lies.below LOk.out HW.out) BU0.out (fun y hy => by cases hy)).mono ?_
        rintro e w2 ⟨he, hB⟩
        rw [BU0S.out] at he
        subst he
        refine ⟨_, rfl, ?_⟩
        refine hK.out _ _ ⟨(by rw [ha.out]; exact putSel_upk 15 hb_ rfl rfl rfl), below_step HW.out hB⟩
      refine steps_cons ?_ ?_
      · rintro b a w' ⟨ha, Q_HW⟩ hb_ hon hoff
        refine ⟨_, rfl, fun K hK => ?_⟩
        have e111 : a.tmps[111]? = some (.bool true) := by rw [ha]; exact putSel_on (e := (11, 111, .bool true)) 10 rfl rfl (hon 11 (by kernel_rfl)) rfl
        have e116 : a.tmps[116]? = some (.bool true) := by rw [ha]; exact putSel_on (e := (16, 116, .bool true)) 15 rfl rfl (hon 16 (by kernel_rfl)) rfl
        replace ha := Aside0.mk ha
        have HW := Aside0.mk Q_HW
        refine value_ (w1 := w') (v := .bool true) (by rfl) rfl ?_ ?_
        · go_simp
          (try simp only [i64_w])
          try rfl
        refine hK.out _ _ ⟨(by rw [ha.out]; exact putSel_upk 16 hb_ rfl rfl rfl), Q_HW⟩
      refine steps_cons ?_ ?_
      · rintro b a w' ⟨ha, Q_HW⟩ hb_ hon hoff
        refine ⟨_, rfl, fun K hK => ?_⟩
        have e117 : a.tmps[117]? = some (.bool true) := by rw [ha]; exact putSel_on (e := (17, 117, .bool true)) 16 rfl rfl (hon 17 (by kernel_rfl)) rfl
        replace ha := Aside0.mk ha
        have HW := Aside0.mk Q_HW
        refine value_ (w1 := w') (v := .bool true) (by rfl) rfl ?_ ?_
        · go_simp
          (try simp only [i64_w])
          try rfl
        refine hK.out _ _ ⟨(by rw [ha.out]; exact putSel_upk 17 hb_ rfl rfl rfl), Q_HW⟩
      refine steps_cons ?_ ?_
      · rintro b a w' ⟨ha, Q_HW⟩ hb_ hon hoff
        refine ⟨_, rfl, fun K hK => ?_⟩
        have e21 : a.tmps[21]? = some (.slice (some adL) 2 cO) := by rw [ha]; exact (putSel_off rfl).trans rfl
        have e118 : a.tmps[118]? = some (.bool true) := by rw [ha]; exact putSel_on (e := (18, 118, .bool true)) 17 rfl rfl (hon 18 (by kernel_rfl)) rfl
        replace ha := Aside0.mk ha
        have HW := Aside0.mk Q_HW
        refine value_ (w1 := w') (v := .slice (some adL) 2 cO) (wanted_on rfl rfl rfl (e118.trans (by first | rfl | (simp [*]; done)))) rfl ?_ ?_
        · go_simp
          (try simp only [i64_w])
          try rfl
        refine hK.out _ _ ⟨(by rw [ha.out]; exact putSel_upk 18 hb_ rfl rfl rfl), Q_HW⟩
      refine steps_cons ?_ ?_
      · rintro b a w' ⟨ha, Q_HW⟩ hb_ hon hoff
        refine ⟨_, rfl, fun K hK => ?_⟩
        have e119 : a.tmps[119]? = some (.slice (some adL) 2 cO) := by rw [ha]; exact putSel_on (e := (19, 119, .slice (some adL) 2 cO)) 18 rfl rfl (hon 19 (by kernel_rfl)) rfl
        have e118 : a.tmps[118]? = some (.bool true) := by rw [ha]; exact putSel_on (e := (18, 118, .bool true)) 17 rfl rfl (hon 18 (by kernel_rfl)) rfl
        replace ha := Aside0.mk ha
        have HW := Aside0.mk Q_HW
        refine value_ (w1 := w') (v := .pointer (some (adL.add 9))) (wanted_on rfl rfl rfl (e118.trans (by first | rfl | (simp [*]; done)))) rfl ?_ ?_
        · go_simp
          (try simp only [i64_w])
          try rfl
        refine hK.out _ _ ⟨(by rw [ha.out]; exact putSel_upk 19 hb_ rfl rfl rfl), Q_HW⟩
      refine steps_cons ?_ ?_
      · rintro b a w' ⟨ha, Q_HW⟩ hb_ hon hoff
        refine ⟨_, rfl, fun K hK => ?_⟩
        have e120 : a.tmps[120]? = some (.pointer (some (adL.add 9))) := by rw [ha]; exact putSel_on (e := (20, 120, .pointer (some (adL.add 9)))) 19 rfl rfl (hon 20 (by kernel_rfl)) rfl
        have e118 : a.tmps[118]? = some (.bool true) := by rw [ha]; exact putSel_on (e := (18, 118, .bool true)) 17 rfl rfl (hon 18 (by kernel_rfl)) rfl
        replace ha := Aside0.mk ha
        have HW := Aside0.mk Q_HW
        have q0 := cells_at HW.out HD1.out.1
        have q1 := cells_at HW.out HD1.out.2.1
        have q2 := cells_at HW.out HD1.out.2.2.1
        have q3 := cells_at HW.out HD1.out.2.2.2.1
        have q4 := cells_at HW.out HD1.out.2.2.2.2.1
        have q5 := cells_at HW.out HD1.out.2.2.2.2.2.1
        have q6 := cells_at HW.out HD1.out.2.2.2.2.2.2.1
        have q7 := cells_at HW.out HD1.out.2.2.2.2.2.2.2.1
        have q8 := cells_at HW.out HD1.out.2.2.2.2.2.2.2.2
        refine value_ (w1 := w') (v := .agg #[.int .i64 u1.k, .int .i64 u1.c, .int .i64 u1.q, .int .i64 u1.h, .int .i64 u1.a, .int .i64 u1.t, .slice D6 u1.p.length Dm6, .slice D7 u1.s.length Dm7, .slice D8 u1.r.length Dm8]) (wanted_on rfl rfl rfl (e118.trans (by first | rfl | (simp [*]; done)))) rfl ?_ ?_
        · go_simp
          (try simp only [i64_w])
          try rfl
        refine hK.out _ _ ⟨(by rw [ha.out]; exact putSel_upk 20 hb_ rfl rfl rfl), Q_HW⟩
      refine steps_cons ?_ ?_
      · rintro b a w' ⟨ha, Q_HW⟩ hb_ hon hoff
        refine ⟨_, rfl, fun K hK => ?_⟩
        have e12 : a.tmps[12]? = some (.pointer (some ⟨bP, 0, none⟩)) := by rw [ha]; exact (putSel_off rfl).trans rfl
        have e118 : a.tmps[118]? = some (.bool true) := by rw [ha]; exact putSel_on (e := (18, 118, .bool true)) 17 rfl rfl (hon 18 (by kernel_rfl)) rfl
        replace ha := Aside0.mk ha
        have HW := Aside0.mk Q_HW
        have q0 := (blk_cell (blk_below HPk.out HW.out) 0).trans (rfl : _ = some (Value.int .i64 6))
        have q1 := (blk_cell (blk_below HPk.out HW.out) 1).trans (rfl : _ = some (Value.int .i64 c))
        have q2 := (blk_cell (blk_below HPk.out HW.out) 2).trans (rfl : _ = some (Value.int .i64 0))
        have q3 := (blk_cell (blk_below HPk.out HW.out) 3).trans (rfl : _ = some (Value.int .i64 n))
        have q4 := (blk_cell (blk_below HPk.out HW.out) 4).trans (rfl : _ = some (Value.int .i64 0))
        have q5 := (blk_cell (blk_below HPk.out HW.out) 5).trans (rfl : _ = some (Value.int .i64 0))
        have q6 := (blk_cell (blk_below HPk.out HW.out) 6).trans (rfl : _ = some (Value.slice none 0 0))
        have q7 := (blk_cell (blk_below HPk.out HW.out) 7).trans (rfl : _ = some (Value.slice (some ⟨b3, 0, none⟩) 2 2))
        have q8 := (blk_cell (blk_below HPk.out HW.out) 8).trans (rfl : _ = some (Value.slice none 0 0))
        refine value_ (w1 := w') (v := .agg #[.int .i64 6, .int .i64 c, .int .i64 0, .int .i64 n, .int .i64 0, .int .i64 0, .slice none 0 0, .slice (some ⟨b3, 0, none⟩) 2 2, .slice none 0 0]) (wanted_on rfl rfl rfl (e118.trans (by first | rfl | (simp [*]; done)))) rfl ?_ ?_
        · go_simp
          (try simp only [i64_w])
          try rfl
        refine hK.out _ _ ⟨(by rw [ha.out]; exact putSel_upk 21 hb_ rfl rfl rfl), Q_HW⟩
      refine steps_cons ?_ ?_
      · rintro b a w' ⟨ha, Q_HW⟩ hb_ hon hoff
        refine ⟨_, rfl, fun K hK => ?_⟩
        have e121 : a.tmps[121]? = some (.agg #[.int .i64 u1.k, .int .i64 u1.c, .int .i64 u1.q, .int .i64 u1.h, .int .i64 u1.a, .int .i64 u1.t, .slice D6 u1.p.length Dm6, .slice D7 u1.s.length Dm7, .slice D8 u1.r.length Dm8]) := by rw [ha]; exact putSel_on (e := (21, 121, .agg #[.int .i64 u1.k, .int .i64 u1.c, .int .i64 u1.q, .int .i64 u1.h, .int .i64 u1.a, .int .i64 u1.t, .slice D6 u1.p.length Dm6, .slice D7 u1.s.length Dm7, .slice D8 u1.r.length Dm8])) 20 rfl rfl (hon 21 (by kernel_rfl)) rfl
        have e122 : a.tmps[122]? = some (.agg #[.int .i64 6, .int .i64 c, .int .i64 0, .int .i64 n, .int .i64 0, .int .i64 0, .slice none 0 0, .slice (some ⟨b3, 0, none⟩) 2 2, .slice none 0 0]) := by rw [ha]; exact putSel_on (e := (22, 122, .agg #[.int .i64 6, .int .i64 c, .int .i64 0, .int .i64 n, .int .i64 0, .int .i64 0, .slice none 0 0, .slice (some ⟨b3, 0, none⟩) 2 2, .slice none 0 0])) 21 rfl rfl (hon 22 (by kernel_rfl)) rfl
        have e118 : a.tmps[118]? = some (.bool true) := by rw [ha]; exact putSel_on (e := (18, 118, .bool true)) 17 rfl rfl (hon 18 (by kernel_rfl)) rfl
        replace ha := Aside0.mk ha
        have HW := Aside0.mk Q_HW
        refine goes_ Tryd.func29 (by kernel_rfl) rfl #[.agg #[.int .i64 u1.k, .int .i64 u1.c, .int .i64 u1.q, .int .i64 u1.h, .int .i64 u1.a, .int .i64 u1.t, .slice D6 u1.p.length Dm6, .slice D7 u1.s.length Dm7, .slice D8 u1.r.length Dm8], .agg #[.int .i64 6, .int .i64 c, .int .i64 0, .int .i64 n, .int .i64 0, .int .i64 0, .slice none 0 0, .slice (some ⟨b3, 0, none⟩) 2 2, .slice none 0 0]] (wanted_on rfl rfl rfl e118) rfl rfl (by simp only [List.map_toArray, List.map_cons, List.map_nil, Act.eval, Array.getD_eq_getD_getElem?, Option.getD_some, e121, e122]) ?_
        refine (same_calls u1 D6 Dm6 D7 Dm7 D8 Dm8 (nP n m c s1) none 0 (some ⟨b3, 0, none⟩) 2 none 0 w' (Lies.below LU1.out HW.out) (Lies.below LPk.out HW.out) BU1.out (fun y hy => by cases hy)).mono ?_
        rintro e w2 ⟨he, hB⟩
        rw [BU1S.out] at he
        subst he
        refine ⟨_, rfl, ?_⟩
        refine hK.out _ _ ⟨(by rw [ha.out]; exact putSel_upk 22 hb_ rfl rfl rfl), below_step HW.out hB⟩
      refine steps_cons ?_ ?_
      · rintro b a w' ⟨ha, Q_HW⟩ hb_ hon hoff
        refine ⟨_, rfl, fun K hK => ?_⟩
        have e118 : a.tmps[118]? = some (.bool true) := by rw [ha]; exact putSel_on (e := (18, 118, .bool true)) 17 rfl rfl (hon 18 (by kernel_rfl)) rfl
        have e123 : a.tmps[123]? = some (.bool true) := by rw [ha]; exact putSel_on (e := (23, 123, .bool true)) 22 rfl rfl (hon 23 (by kernel_rfl)) rfl
        replace ha := Aside0.mk ha
        have HW := Aside0.mk Q_HW
        refine value_ (w1 := w') (v := .bool true) (by rfl) rfl ?_ ?_
        · go_simp
          (try simp only [i64_w])
          try rfl
        refine hK.out _ _ ⟨(by rw [ha.out]; exact putSel_upk 23 hb_ rfl rfl rfl), Q_HW⟩
      refine steps_cons ?_ ?_
      · rintro b a w' ⟨ha, Q_HW⟩ hb_ hon hoff
        refine ⟨_, rfl, fun K hK => ?_⟩
        have e124 : a.tmps[124]? = some (.bool true) := by rw [ha]; exact putSel_on (e := (24, 124, .bool true)) 23 rfl rfl (hon 24 (by kernel_rfl)) rfl
        replace ha := Aside0.mk ha
        have HW := Aside0.mk Q_HW
        refine value_ (w1 := w') (v := .bool true) (by rfl) rfl ?_ ?_
        · go_simp
          (try simp only [i64_w])
          try rfl
        refine hK.out _ _ ⟨(by rw [ha.out]; exact putSel_upk 24 hb_ rfl rfl rfl), Q_HW⟩
      refine steps_cons ?_ ?_
      · rintro b a w' ⟨ha, Q_HW⟩ hb_ hon hoff
        refine ⟨_, rfl, fun K hK => ?_⟩
        have e24 : a.tmps[24]? = some (.nilIface) := by rw [ha]; exact (putSel_off rfl).trans rfl
        have e125 : a.tmps[125]? = some (.bool true) := by rw [ha]; exact putSel_on (e := (25, 125, .bool true)) 24 rfl rfl (hon 25 (by kernel_rfl)) rfl
        replace ha := Aside0.mk ha
        have HW := Aside0.mk Q_HW
        refine value_ (w1 := w') (v := .nilIface) (wanted_on rfl rfl rfl (e125.trans (by first | rfl | (simp [*]; done)))) rfl ?_ ?_
        · go_simp
          (try simp only [i64_w])
          try rfl
        refine hK.out _ _ ⟨(by rw [ha.out]; exact putSel_upk 25 hb_ rfl rfl rfl), Q_HW⟩
      refine steps_cons ?_ ?_
      · rintro b a w' ⟨ha, Q_HW⟩ hb_ hon hoff
        refine ⟨_, rfl, fun K hK => ?_⟩
        have e126 : a.tmps[126]? = some (.nilIface) := by rw [ha]; exact putSel_on (e := (26, 126, .nilIface)) 25 rfl rfl (hon 26 (by kernel_rfl)) rfl
        have e125 : a.tmps[125]? = some (.bool true) := by rw [ha]; exact putSel_on (e := (25, 125, .bool true)) 24 rfl rfl (hon 25 (by kernel_rfl)) rfl
        replace ha := Aside0.mk ha
        have HW := Aside0.mk Q_HW
        refine value_ (w1 := w') (v := .bool true) (wanted_on rfl rfl rfl (e125.trans (by first | rfl | (simp [*]; done)))) rfl ?_ ?_
        · go_simp
          (try simp only [i64_w])
          try rfl
        refine hK.out _ _ ⟨(by rw [ha.out]; exact putSel_upk 26 hb_ rfl rfl rfl), Q_HW⟩
      refine steps_cons ?_ ?_
      · rintro b a w' ⟨ha, Q_HW⟩ hb_ hon hoff
        refine ⟨_, rfl, fun K hK => ?_⟩
        have e125 : a.tmps[125]? = some (.bool true) := by rw [ha]; exact putSel_on (e := (25, 125, .bool true)) 24 rfl rfl (hon 25 (by kernel_rfl)) rfl
        have e127 : a.tmps[127]? = some (.bool true) := by rw [ha]; exact putSel_on (e := (27, 127, .bool true)) 26 rfl rfl (hon 27 (by kernel_rfl)) rfl
        replace ha := Aside0.mk ha
        have HW := Aside0.mk Q_HW
        refine value_ (w1 := w') (v := .bool true) (by rfl) rfl ?_ ?_
        · go_simp
          (try simp only [i64_w])
          try rfl
        refine hK.out _ _ ⟨(by rw [ha.out]; exact putSel_upk 27 hb_ rfl rfl rfl), Q_HW⟩
      refine steps_cons ?_ ?_
      · rintro b a w' ⟨ha, Q_HW⟩ hb_ hon hoff
        refine ⟨_, rfl, fun K hK => ?_⟩
        have e128 : a.tmps[128]? = some (.bool true) := by rw [ha]; exact putSel_on (e := (28, 128, .bool true)) 27 rfl rfl (hon 28 (by kernel_rfl)) rfl
        replace ha := Aside0.mk ha
        have HW := Aside0.mk Q_HW
        refine value_ (w1 := w') (v := .bool true) (by rfl) rfl ?_ ?_
        · go_simp
          (try simp only [i64_w])
          try rfl
        refine hK.out _ _ ⟨(by rw [ha.out]; exact putSel_upk 28 hb_ rfl rfl rfl), Q_HW⟩
      refine steps_cons ?_ ?_
      · rintro b a w' ⟨ha, Q_HW⟩ hb_ hon hoff
        refine ⟨_, rfl, fun K hK => ?_⟩
        have e23 : a.tmps[23]? = some (.slice aN 0 cN) := by rw [ha]; exact (putSel_off rfl).trans rfl
        have e129 : a.tmps[129]? = some (.bool true) := by rw [ha]; exact putSel_on (e := (29, 129, .bool true)) 28 rfl rfl (hon 29 (by kernel_rfl)) rfl
        replace ha := Aside0.mk ha
        have HW := Aside0.mk Q_HW
        refine value_ (w1 := w') (v := .slice aN 0 cN) (wanted_on rfl rfl rfl (e129.trans (by first | rfl | (simp [*]; done)))) rfl ?_ ?_
        · go_simp
          (try simp only [i64_w])
          try rfl
        refine hK.out _ _ ⟨(by rw [ha.out]; exact putSel_upk 29 hb_ rfl rfl rfl), Q_HW⟩
      refine steps_cons ?_ ?_
      · rintro b a w' ⟨ha, Q_HW⟩ hb_ hon hoff
        refine ⟨_, rfl, fun K hK => ?_⟩
        have e130 : a.tmps[130]? = some (.slice aN 0 cN) := by rw [ha]; exact putSel_on (e := (30, 130, .slice aN 0 cN)) 29 rfl rfl (hon 30 (by kernel_rfl)) rfl
        have e129 : a.tmps[129]? = some (.bool true) := by rw [ha]; exact putSel_on (e := (29, 129, .bool true)) 28 rfl rfl (hon 29 (by kernel_rfl)) rfl
        replace ha := Aside0.mk ha
        have HW := Aside0.mk Q_HW
        refine value_ (w1 := w') (v := .int .i64 0) (wanted_on rfl rfl rfl (e129.trans (by first | rfl | (simp [*]; done)))) rfl ?_ ?_
        · go_simp
          (try simp only [i64_w])
          try rfl
        refine hK.out _ _ ⟨(by rw [ha.out]; exact putSel_upk 30 hb_ rfl rfl rfl), Q_HW⟩
      refine steps_cons ?_ ?_
      · rintro b a w' ⟨ha, Q_HW⟩ hb_ hon hoff
        refine ⟨_, rfl, fun K hK => ?_⟩
        have e131 : a.tmps[131]? = some (.int .i64 0) := by rw [ha]; exact putSel_on (e := (31, 131, .int .i64 0)) 30 rfl rfl (hon 31 (by kernel_rfl)) rfl
        have e129 : a.tmps[129]? = some (.bool true) := by rw [ha]; exact putSel_on (e := (29, 129, .bool true)) 28 rfl rfl (hon 29 (by kernel_rfl)) rfl
        replace ha := Aside0.mk ha
        have HW := Aside0.mk Q_HW
        refine value_ (w1 := w') (v := .bool true) (wanted_on rfl rfl rfl (e129.trans (by first | rfl | (simp [*]; done)))) rfl ?_ ?_
        · go_simp
          (try simp only [i64_w])
          try rfl
        refine hK.out _ _ ⟨(by rw [ha.out]; exact putSel_upk 31 hb_ rfl rfl rfl), Q_HW⟩
      refine steps_cons ?_ ?_
      · rintro b a w' ⟨ha, Q_HW⟩ hb_ hon hoff
        refine ⟨_, rfl, fun K hK => ?_⟩
        have e129 : a.tmps[129]? = some (.bool true) := by rw [ha]; exact putSel_on (e := (29, 129, .bool true)) 28 rfl rfl (hon 29 (by kernel_rfl)) rfl
        have e132 : a.tmps[132]? = some (.bool true) := by rw [ha]; exact putSel_on (e := (32, 132, .bool true)) 31 rfl rfl (hon 32 (by kernel_rfl)) rfl
        replace ha := Aside0.mk ha
        have HW := Aside0.mk Q_HW
        refine value_ (w1 := w') (v := .bool true) (by rfl) rfl ?_ ?_
        · go_simp
          (try simp only [i64_w])
          try rfl
        refine hK.out _ _ ⟨(by rw [ha.out]; exact putSel_upk 32 hb_ rfl rfl rfl), Q_HW⟩
      refine steps_cons ?_ ?_
      · rintro b a w' ⟨ha, Q_HW⟩ hb_ hon hoff
        refine ⟨_, rfl, fun K hK => ?_⟩
        have e133 : a.tmps[133]? = some (.bool true) := by rw [ha]; exact putSel_on (e := (33, 133, .bool true)) 32 rfl rfl (hon 33 (by kernel_rfl)) rfl
        replace ha := Aside0.mk ha
        have HW := Aside0.mk Q_HW
        refine value_ (w1 := w') (v := .bool true) (by rfl) rfl ?_ ?_
        · go_simp
          (try simp only [i64_w])
          try rfl
        refine hK.out _ _ ⟨(by rw [ha.out]; exact putSel_upk 33 hb_ rfl rfl rfl), Q_HW⟩
      refine steps_cons ?_ ?_
      · rintro b a w' ⟨ha, Q_HW⟩ hb_ hon hoff
        refine ⟨_, rfl, fun K hK => ?_⟩
        have e134 : a.tmps[134]? = some (.bool true) := by rw [ha]; exact putSel_on (e := (34, 134, .bool true)) 33 rfl rfl (hon 34 (by kernel_rfl)) rfl
        replace ha := Aside0.mk ha
        have HW := Aside0.mk Q_HW
        refine goes_ Tryd.func3 (by kernel_rfl) rfl #[] (wanted_on rfl rfl rfl e134) rfl rfl (by simp only [List.map_toArray, List.map_cons, List.map_nil, Act.eval, Array.getD_eq_getD_getElem?, Option.getD_some]) ?_
        refine (Cr.codeRuns_calls w' (Go.Proofs.YtbplemhjhpfkgaaDoor.Ft.Door.below HGk.out HW.out)).mono ?_
        rintro e w2 ⟨he, hB⟩
        subst he
        refine ⟨_, rfl, ?_⟩
        refine hK.out _ _ ⟨(by rw [ha.out]; exact putSel_upk 34 hb_ rfl rfl rfl), below_step HW.out hB⟩
      refine steps_cons ?_ ?_
      · rintro b a w' ⟨ha, Q_HW⟩ hb_ hon hoff
        refine ⟨_, rfl, fun K hK => ?_⟩
        have e134 : a.tmps[134]? = some (.bool true) := by rw [ha]; exact putSel_on (e := (34, 134, .bool true)) 33 rfl rfl (hon 34 (by kernel_rfl)) rfl
        have e135 : a.tmps[135]? = some (.bool true) := by rw [ha]; exact putSel_on (e := (35, 135, .bool true)) 34 rfl rfl (hon 35 (by kernel_rfl)) rfl
        replace ha := Aside0.mk ha
        have HW := Aside0.mk Q_HW
        refine value_ (w1 := w') (v := .bool true) (by rfl) rfl ?_ ?_
        · go_simp
          (try simp only [i64_w])
          try rfl
        refine hK.out _ _ ⟨(by rw [ha.out]; exact putSel_upk 35 hb_ rfl rfl rfl), Q_HW⟩
      refine steps_cons ?_ ?_
      · rintro b a w' ⟨ha, Q_HW⟩ hb_ hon hoff
        refine ⟨_, rfl, fun K hK => ?_⟩
        have e136 : a.tmps[136]? = some (.bool true) := by rw [ha]; exact putSel_on (e := (36, 136, .bool true)) 35 rfl rfl (hon 36 (by kernel_rfl)) rfl
        replace ha := Aside0.mk ha
        have HW := Aside0.mk Q_HW
        refine value_ (w1 := w') (v := .bool true) (by rfl) rfl ?_ ?_
        · go_simp
          (try simp only [i64_w])
          try rfl
        refine hK.out _ _ ⟨(by rw [ha.out]; exact putSel_upk 36 hb_ rfl rfl rfl), Q_HW⟩
      exact steps_nil
    · rintro b a w' hall ⟨ha, Q_HW⟩
      clear HW
      have hb1_ := hall 1 (by kernel_rfl)
      have hb2_ := hall 2 (by kernel_rfl)
      have hb3_ := hall 3 (by kernel_rfl)
      have hb4_ := hall 4 (by kernel_rfl)
      have hb5_ := hall 5 (by kernel_rfl)
      have hb6_ := hall 6 (by kernel_rfl)
      have hb7_ := hall 7 (by kernel_rfl)
      have hb8_ := hall 8 (by kernel_rfl)
      have hb9_ := hall 9 (by kernel_rfl)
      have hb10_ := hall 10 (by kernel_rfl)
      have hb11_ := hall 11 (by kernel_rfl)
      have hb12_ := hall 12 (by kernel_rfl)
      have hb13_ := hall 13 (by kernel_rfl)
      have hb14_ := hall 14 (by kernel_rfl)
      have hb15_ := hall 15 (by kernel_rfl)
      have hb16_ := hall 16 (by kernel_rfl)
      have hb17_ := hall 17 (by kernel_rfl)
      have hb18_ := hall 18 (by kernel_rfl)
      have hb19_ := hall 19 (by kernel_rfl)
      have hb20_ := hall 20 (by kernel_rfl)
      have hb21_ := hall 21 (by kernel_rfl)
      have hb22_ := hall 22 (by kernel_rfl)
      have hb23_ := hall 23 (by kernel_rfl)
      have hb24_ := hall 24 (by kernel_rfl)
      have hb25_ := hall 25 (by kernel_rfl)
      have hb26_ := hall 26 (by kernel_rfl)
      have hb27_ := hall 27 (by kernel_rfl)
      have hb28_ := hall 28 (by kernel_rfl)
      have hb29_ := hall 29 (by kernel_rfl)
      have hb30_ := hall 30 (by kernel_rfl)
      have hb31_ := hall 31 (by kernel_rfl)
      have hb32_ := hall 32 (by kernel_rfl)
      have hb33_ := hall 33 (by kernel_rfl)
      have hb34_ := hall 34 (by kernel_rfl)
      have hb35_ := hall 35 (by kernel_rfl)
      have hb36_ := hall 36 (by kernel_rfl)
      have hb37_ := hall 37 (by kernel_rfl)
      subst ha
      simp only [putSel, hb1_, hb2_, hb3_, hb4_, hb5_, hb6_, hb7_, hb8_, hb9_, hb10_, hb11_, hb12_, hb13_, hb14_, hb15_, hb16_, hb17_, hb18_, hb19_, hb20_, hb21_, hb22_, hb23_, hb24_, hb25_, hb26_, hb27_, hb28_, hb29_, hb30_, hb31_, hb32_, hb33_, hb34_, hb35_, hb36_, hb37_, if_true, Act.put, List.setIfInBounds_toArray, List.set_cons_zero, List.set_cons_succ]
      have HW := Aside0.mk Q_HW
      clear Q_HW
      clear hall hb1_ hb2_ hb3_ hb4_ hb5_ hb6_ hb7_ hb8_ hb9_ hb10_ hb11_ hb12_ hb13_ hb14_ hb15_ hb16_ hb17_ hb18_ hb19_ hb20_ hb21_ hb22_ hb23_ hb24_ hb25_ hb26_ hb27_ hb28_ hb29_ hb30_ hb31_ hb32_ hb33_ hb34_ hb35_ hb36_ hb37_
      go_wp2
      go_ret
      exact ⟨rfl, below_step HWc.out HW.out⟩
end Go.Proofs.YtbplemhjhpfkgaaDoor.Cd

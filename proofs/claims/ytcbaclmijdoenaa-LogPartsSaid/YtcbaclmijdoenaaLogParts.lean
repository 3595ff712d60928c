/-
  LogParts: what is once in two parts together is once in each; links of one publication are those of both parts; the order of others doesn't matter.
-/
import Derived.Test.YtcbaclmijdoenaaPartsFns
namespace Go.Proofs.Ytcbaclmijdoenaa.Lg
open Go.RowKit Go.ChangeShapes Go.Proofs.YtcbaclmijdoenaaW.PrintWords Go.Proofs.YtcbaclmijdoenaaW.PrintLast Go.Proofs.YtcbaclmijdoenaaW.PrintMore
set_option linter.unusedVariables false
set_option linter.unusedSimpArgs false

theorem pown_emptyCr (w : World) : Kd.R kCr 25 (w.alloc (.cells #[] 25)) w.heap.size (fun _ => True) (.slice (some ⟨w.heap.size, 0, none⟩) 0 0) [] :=
  ⟨fun _ _ => trivial, [], by show World.ownsRow _ _ _ 4 _ _ _; simpa using World.ownsRow_lit (base := w.heap.size) (e := 25) (size := 4) w #[] 0 (Nat.le_refl _) (by simp) rfl, Reps.none _ _⟩
theorem pown_emptyPr (w : World) : Kd.R kPr 46 (w.alloc (.cells #[] 46)) w.heap.size (fun _ => True) (.slice (some ⟨w.heap.size, 0, none⟩) 0 0) [] :=
  ⟨fun _ _ => trivial, [], by show World.ownsRow _ _ _ 2 _ _ _; simpa using World.ownsRow_lit (base := w.heap.size) (e := 46) (size := 2) w #[] 0 (Nat.le_refl _) (by simp) rfl, Reps.none _ _⟩
theorem C_nil (w : World) : Kd.C kCr w none 0 [] := ⟨rfl, by omega, fun h => by omega⟩
theorem own_apart {v1 v s : Value} {W : World} (hat : v1.ownBlock = v.ownBlock ∨ ∃ b, v1.ownBlock = some b ∧ W.heap.size ≤ b) (hn : v.ownBlock ≠ s.ownBlock) (hl : ∀ k, s.ownBlock = some k → k < W.heap.size) : ∀ k, v1.ownBlock = some k → some k ≠ s.ownBlock := by
  intro k hk he
  rcases hat with h | ⟨b, h, hb⟩
  · exact hn (by rw [← h, hk, he])
  · have h2 : b = k := by rw [h] at hk; exact Option.some.inj hk
    have h3 := hl k he.symm
    omega
/-- What is cut off a row: ahead, and behind. -/
theorem cuts {P : Program} {α : Type} (d : Kd α) (t e : TypeId) {z : Value} {bytes : Nat} (ht : P.underlying t = some (.slice e)) (hinfo : (P.info? e).map (fun i => (i.zero, i.size, i.bytes)) = some (some z, d.sz, bytes)) {w : World} {A : Option Addr} {c : Nat} {xs : List α} (h : d.C w A xs.length xs) (hc : xs.length ≤ c) (k : Nat) (hk : k ≤ xs.length) :
    ((∀ W : World, (Instr.slice t (.slice A xs.length c) none (some (.int .i64 (k : Int))) none).run P W = .ok (.slice A (xs.take k).length c) W) ∧ d.C w A (xs.take k).length (xs.take k)) ∧
    ∃ (A' : Option Addr) (c' : Nat), (∀ W : World, (Instr.slice t (.slice A xs.length c) (some (.int .i64 (k : Int))) none none).run P W = .ok (.slice A' (xs.drop k).length c') W) ∧ d.C w A' (xs.drop k).length (xs.drop k) := by
  obtain ⟨i0, hi, hzz⟩ := Option.map_eq_some_iff.1 hinfo
  simp only [Prod.mk.injEq] at hzz
  refine ⟨⟨fun W => ?_, Kd.C_take h hk⟩, _, c - k, fun W => ?_, Kd.C_drop h hk hc⟩
  · have := cut_to t e .i64 ht hi A xs.length c (k : Int) (by omega) (by omega) hc W
    rw [this, List.length_take, Nat.min_eq_left hk]
    simp
  · have := cut_from t e .i64 ht hi d.sz hzz.2.1 A xs.length c (k : Int) (by omega) (by omega) W
    rw [this, List.length_drop]
    simp
theorem pc_snocX {cs : List Cr} (h : Pc cs) (n : Int) : Pc (cs ++ [(bits .and .i64 n 3, bits .and .i64 (n / 4) 3, bits .and .i64 (n / 16) 3, 0)]) := by
  have e1 : InI64 (bits .and .i64 n 3) := wf_bits _ _ _ _
  have e2 : InI64 (bits .and .i64 (n / 4) 3) := wf_bits _ _ _ _
  have e3 : InI64 (bits .and .i64 (n / 16) 3) := wf_bits _ _ _ _
  have e4 : 0 ≤ bits .and .i64 (n / 16) 3 ∧ bits .and .i64 (n / 16) 3 < 4 := by rw [i64_and3]; omega
  have e5 : InI64 0 := inI64 (by omega) (by omega)
  generalize bits .and .i64 n 3 = a at *
  generalize bits .and .i64 (n / 4) 3 = b at *
  generalize bits .and .i64 (n / 16) 3 = c at *
  exact pc_snoc h ⟨⟨e1, e2, e3, e5⟩, e4.1, e4.2, rfl⟩
theorem pd_snocX {ds : List Dl} (h : Pd ds) (n : Int) : Pd (ds ++ [(bits .and .i64 n 7, 0, bits .and .i64 (n / 8) 3, none, 0, 0)]) := by
  have e1 : InI64 (bits .and .i64 n 7) := wf_bits _ _ _ _
  have e3 : InI64 (bits .and .i64 (n / 8) 3) := wf_bits _ _ _ _
  have e4 : 0 ≤ bits .and .i64 (n / 8) 3 ∧ bits .and .i64 (n / 8) 3 < 4 := by rw [i64_and3]; omega
  have e5 : InI64 0 := inI64 (by omega) (by omega)
  generalize bits .and .i64 n 7 = a at *
  generalize bits .and .i64 (n / 8) 3 = c at *
  exact pd_snoc h ⟨⟨e1, e5, e3⟩, rfl, e4.1, e4.2⟩
def lpReg.T6 : Bool × List (List Nat × List Nat) := (true, [([], []), ([], []), ([], []), ([1, 2], [1, 2]), ([3], [3]), ([4], [4]), ([], []), ([], []), ([6, 7], [6, 7]), ([8], [8]), ([9], [9]), ([10], [10]), ([], []), ([], []), ([12, 13], [12, 13]), ([14], [14]), ([15], [15]), ([16], [16]), ([17], [17]), ([5, 11, 18], [5, 11, 18]), ([19], [19]), ([0, 20], [0, 20]), ([21, 21, 0, 1, 2, 3, 4, 5, 6, 7, 8, 9, 10, 11, 12, 13, 14, 15, 16, 17, 18, 19, 20, 21], [0, 21])])
def lpReg.B6 : List Nat := [0, 0, 0, 6, 14, 30, 0, 0, 192, 448, 960, 1984, 0, 0, 12288, 28672, 61440, 126976, 258048, 524286, 1048574, 2097151, 4194303]
theorem lpReg.tab6 : rtab .any (opsOf Try.f6 6) = lpReg.T6 := by kernel_rfl
theorem lpReg.bits6 : waitsOk lpReg.T6.2 lpReg.B6 = true := by kernel_rfl
def lpReg.T7 : Bool × List (List Nat × List Nat) := (true, [([], []), ([], []), ([], []), ([1, 2], [1, 2]), ([3], [3]), ([4], [4]), ([], []), ([], []), ([6, 7], [6, 7]), ([8], [8]), ([9], [9]), ([10], [10]), ([11], [11]), ([5, 12], [5, 12]), ([13], [13]), ([0, 14], [0, 14]), ([15, 15, 0, 1, 2, 3, 4, 5, 6, 7, 8, 9, 10, 11, 12, 13, 14, 15], [0, 15])])
def lpReg.B7 : List Nat := [0, 0, 0, 6, 14, 30, 0, 0, 192, 448, 960, 1984, 4032, 8190, 16382, 32767, 65535]
theorem lpReg.tab7 : rtab .any (opsOf Try.f6 7) = lpReg.T7 := by kernel_rfl
theorem lpReg.bits7 : waitsOk lpReg.T7.2 lpReg.B7 = true := by kernel_rfl
def lpReg.T11 : Bool × List (List Nat × List Nat) := (true, [([], []), ([], []), ([], []), ([1, 2], [1, 2]), ([0, 3], [0, 3]), ([], []), ([], []), ([5, 6], [5, 6]), ([4, 7, 4], [4, 7]), ([8, 8, 0, 1, 2, 3, 4, 5, 6, 7, 8], [8])])
def lpReg.B11 : List Nat := [0, 0, 0, 6, 15, 0, 0, 96, 255, 511]
theorem lpReg.tab11 : rtab .any (opsOf Try.f6 11) = lpReg.T11 := by kernel_rfl
theorem lpReg.bits11 : waitsOk lpReg.T11.2 lpReg.B11 = true := by kernel_rfl
def lpReg.T17 : Bool × List (List Nat × List Nat) := (true, [([], []), ([], []), ([0, 1], [0, 1]), ([], []), ([], []), ([], []), ([4, 5], [4, 5]), ([], []), ([6, 7, 2], [6, 7]), ([3, 8, 8], [3, 8]), ([], []), ([], []), ([10, 11], [10, 11]), ([], []), ([12, 13, 9], [12, 13]), ([9, 14, 14], [9, 14]), ([2, 15, 15], [2, 15]), ([16], [16])])
def lpReg.B17 : List Nat := [0, 0, 3, 0, 0, 0, 48, 0, 247, 511, 0, 0, 3072, 0, 16383, 32767, 65535, 131071]
theorem lpReg.tab17 : rtab .any (opsOf Try.f6 17) = lpReg.T17 := by kernel_rfl
theorem lpReg.bits17 : waitsOk lpReg.T17.2 lpReg.B17 = true := by kernel_rfl

set_option maxRecDepth 100000 in
set_option maxHeartbeats 8000000 in
theorem parts_calls (A0 : Option Addr) (c0 : Nat) (l : List Int) (cut_ : Int) (w : World) (hr : Kd.C (Kd.int .i64) w A0 l.length l) :
    Calls Try.prog 6 #[.slice A0 l.length c0, .int .i64 cut_] w fun e w' => e = .returned (.bool true) ∧ Below w.heap.size w w' := by
  have HR := Aside0.mk hr
  clear hr
  go_enter Try.func6, Try.ntmps6
  go_upto_block 0 with fail
  go_cut [5, 6, 7] (fun v u i wx => ∃ (cs : List Cr) (ds : List Dl), cs.length ≤ 14 ∧ ds.length = cs.length ∧ Aside0 (Pc cs) ∧ Aside0 (Pd ds) ∧ Aside0 (Kd.R kCr 25 wx w.heap.size (fun _ => True) v cs) ∧ Aside0 (Kd.R kDl 39 wx w.heap.size (fun _ => True) u ds) ∧ Aside0 (Below w.heap.size w wx))
  case first =>
    go_wp2_with fail
    go_loopw [5, 6, 7] (fun v u i wr => ∃ (k : Nat) (cs : List Cr) (ds : List Dl), k ≤ 14 ∧ i = .int .i64 k ∧ cs.length = k ∧ ds.length = k ∧ Aside0 (Pc cs) ∧ Aside0 (Pd ds) ∧ Aside0 (Kd.R kCr 25 wr w.heap.size (fun _ => True) v cs) ∧ Aside0 (Kd.R kDl 39 wr w.heap.size (fun _ => True) u ds) ∧ Aside0 (Below w.heap.size w wr)) (fun _ _ i _ => 14 - (intOf i).toNat)
    case atStart => exact ⟨0, [], [], by omega, rfl, rfl, rfl, ⟨pc_nil⟩, ⟨pd_nil⟩, ⟨Kd.R_nil _ _ _ _ _⟩, ⟨Kd.R_nil _ _ _ _ _⟩, ⟨Below.refl _ _⟩⟩
    case round =>
      obtain ⟨k, cs, ds, hk, rfl, hlc, hld, HM, HD, HC, HE, HB⟩ := hrel
      by_cases hl : k < l.length
      · by_cases hlt : k < 14
        · obtain ⟨ad0, rfl, hc0⟩ := nums_at HR.out k hl
          generalize l.getD k 0 = n at hc0
          have HC0w := Aside0.mk hc0
          have HC0 := Aside0.mk (cells_at HB.out hc0)
          have HLC := Lib.hid hlc
          have HLD := Lib.hid hld
          clear hlc hld hc0
          have HW := Aside0.mk (Below.refl wr.heap.size wr)
          go_upto_region 6 with fail
          go_cut [5] from 14 to 61 (fun v wx => Aside0 (Kd.R kCr 25 wx w.heap.size (fun _ => True) v (cs ++ [(bits .and .i64 n 3, bits .and .i64 (n / 4) 3, bits .and .i64 (n / 16) 3, 0)])) ∧ Aside0 (Kd.R kDl 39 wx w.heap.size (fun _ => True) u6 ds) ∧ Aside0 (Below w.heap.size w wx))
          case first =>
            refine start_ (n := 23) (S := fun w' => True) (ds := []) #[false, false, false, false, false, false, false, false, false, false, false, false, false, false, false, false, false, false, false, false, false, false, false] (by kernel_rfl) rfl rfl trivial (fun hHeld => ?_)
            refine with_tabW lpReg.tab6 lpReg.bits6 (fun HT_ HW_ => ?_)
            refine pure_ (i := 0) (N := some 24) (v := ?_) (a' := ?_) #[true, false, false, false, false, false, false, false, false, false, false, false, false, false, false, false, false, false, false, false, false, false, false] rfl rfl (any_of HT_.out (by kernel_rfl)) (fun _ _ _ h => h) (Or.inl ⟨by rfl, ?_⟩) ?_ ?_
            rotate_left
            · intro w'
              go_simp
              with_reducible rfl
            rotate_left
            · simp only [Act.put, List.setIfInBounds_toArray, List.set_cons_zero, List.set_cons_succ, i64_w, i32_w]
              rfl
            refine pure_ (i := 1) (N := some 25) (v := ?_) (a' := ?_) #[true, true, false, false, false, false, false, false, false, false, false, false, false, false, false, false, false, false, false, false, false, false, false] rfl rfl (any_of HT_.out (by kernel_rfl)) (fun _ _ _ h => h) (Or.inl ⟨by rfl, ?_⟩) ?_ ?_
            rotate_left
            · intro w'
              go_simp
              with_reducible rfl
            rotate_left
            · simp only [Act.put, List.setIfInBounds_toArray, List.set_cons_zero, List.set_cons_succ, i64_w, i32_w]
              rfl
            refine pure_ (i := 2) (N := some 26) (v := ?_) (a' := ?_) #[true, true, true, false, false, false, false, false, false, false, false, false, false, false, false, false, false, false, false, false, false, false, false] rfl rfl (any_of HT_.out (by kernel_rfl)) (fun _ _ _ h => h) (Or.inl ⟨by rfl, ?_⟩) ?_ ?_
            rotate_left
            · intro w'
              go_simp
              with_reducible rfl
            rotate_left
            · simp only [Act.put, List.setIfInBounds_toArray, List.set_cons_zero, List.set_cons_succ, i64_w, i32_w]
              rfl
            refine pure_ (i := 6) (N := some 30) (v := ?_) (a' := ?_) #[true, true, true, false, false, false, true, false, false, false, false, false, false, false, false, false, false, false, false, false, false, false, false] rfl rfl (any_of HT_.out (by kernel_rfl)) (fun _ _ _ h => h) (Or.inl ⟨by rfl, ?_⟩) ?_ ?_
            rotate_left
            · intro w'
              go_simp
              with_reducible rfl
            rotate_left
            · simp only [Act.put, List.setIfInBounds_toArray, List.set_cons_zero, List.set_cons_succ, i64_w, i32_w]
              rfl
            refine pure_ (i := 7) (N := some 31) (v := ?_) (a' := ?_) #[true, true, true, false, false, false, true, true, false, false, false, false, false, false, false, false, false, false, false, false, false, false, false] rfl rfl (any_of HT_.out (by kernel_rfl)) (fun _ _ _ h => h) (Or.inl ⟨by rfl, ?_⟩) ?_ ?_
            rotate_left
            · intro w'
              go_simp
              with_reducible rfl
            rotate_left
            · simp only [Act.put, List.setIfInBounds_toArray, List.set_cons_zero, List.set_cons_succ, i64_w, i32_w]
              rfl
            refine pure_ (i := 12) (N := some 36) (v := ?_) (a' := ?_) #[true, true, true, false, false, false, true, true, false, false, false, false, true, false, false, false, false, false, false, false, false, false, false] rfl rfl (any_of HT_.out (by kernel_rfl)) (fun _ _ _ h => h) (Or.inl ⟨by rfl, ?_⟩) ?_ ?_
            rotate_left
            · intro w'
              go_simp
              with_reducible rfl
            rotate_left
            · simp only [Act.put, List.setIfInBounds_toArray, List.set_cons_zero, List.set_cons_succ, i64_w, i32_w]
              rfl
            refine pure_ (i := 13) (N := some 37) (v := ?_) (a' := ?_) #[true, true, true, false, false, false, true, true, false, false, false, false, true, true, false, false, false, false, false, false, false, false, false] rfl rfl (any_of HT_.out (by kernel_rfl)) (fun _ _ _ h => h) (Or.inl ⟨by rfl, ?_⟩) ?_ ?_
            rotate_left
            · intro w'
              go_simp
              with_reducible rfl
            rotate_left
            · simp only [Act.put, List.setIfInBounds_toArray, List.set_cons_zero, List.set_cons_succ, i64_w, i32_w]
              rfl
            refine inv_at [3, 4, 5, 8, 9, 10, 11, 14, 15, 16, 17, 18, 19, 20, 21, 22] (fun a0_ b a w' => ∃ (b_ : Nat) (s_ : Value) (m20_ : Value) (m22_ : Value), a = putSel a0_ b [(3, 27, .pointer (some (ad0.add k))), (4, 28, .int .i64 n), (5, 29, .int .i64 (bits .and .i64 n 3)), (8, 32, .pointer (some (ad0.add k))), (9, 33, .int .i64 n), (10, 34, .int .i64 (n / 4)), (11, 35, .int .i64 (bits .and .i64 (n / 4) 3)), (14, 38, .pointer (some (ad0.add k))), (15, 39, .int .i64 n), (16, 40, .int .i64 (n / 16)), (17, 41, .int .i64 (bits .and .i64 (n / 16) 3)), (18, 42, .agg #[.int .i64 (bits .and .i64 (n / 16) 3), .int .i64 0]), (19, 43, .agg #[.int .i64 (bits .and .i64 n 3), .int .i64 (bits .and .i64 (n / 4) 3), .int .i64 (bits .and .i64 (n / 16) 3), .int .i64 0]), (20, 44, m20_), (21, 45, s_), (22, 5, m22_)] ∧ (b 21 = false → Below wr.heap.size wr w') ∧ (b 20 = true → b 21 = false → w'.heap[b_]? = some (.cells #[.int .i64 (bits .and .i64 n 3), .int .i64 (bits .and .i64 (n / 4) 3), .int .i64 (bits .and .i64 (n / 16) 3), .int .i64 0] 25 (0, 0))) ∧ (b 21 = true → Kd.R kCr 25 w' w.heap.size (fun _ => True) s_ (cs ++ [(bits .and .i64 n 3, bits .and .i64 (n / 4) 3, bits .and .i64 (n / 16) 3, 0)])) ∧ (b 21 = true → Kd.R kDl 39 w' w.heap.size (fun _ => True) u6 ds) ∧ (b 21 = true → Below w.heap.size w w') ∧ (b 20 = true → (m20_ : Value) = .slice (some ⟨b_, 0, none⟩) 1 1) ∧ (b 22 = true → (m22_ : Value) = s_)) HT_.out HW_.out (by kernel_rfl) (by kernel_rfl) ?_ ?_ ?_
            · exact ⟨0, .bool false, .bool false, .bool false, by simp only [putSel, Bool.false_eq_true, if_false], fun _ => below_drew HW.out, fun h_ => absurd h_ (by decide), fun h_ => absurd h_ (by decide), fun h_ => absurd h_ (by decide), fun h_ => absurd h_ (by decide), fun h_ => absurd h_ (by decide), fun h_ => absurd h_ (by decide)⟩
            · skip
              clear HW
              refine steps_cons ?_ ?_
              · rintro b a w' ⟨b_, s_, m20_, m22_, ha, Q_HW, Q_HS, Q_H7, Q_H6, Q_H0, Q_X20_, Q_X22_⟩ hb_ hon hoff
                refine ⟨_, rfl, fun K hK => ?_⟩
                have e25 : a.tmps[25]? = some (.slice (some ad0) l.length c0) := by rw [ha]; exact (putSel_off rfl).trans rfl
                have e26 : a.tmps[26]? = some (.int .i64 (k : Int)) := by rw [ha]; exact (putSel_off rfl).trans rfl
                replace ha := Aside0.mk ha
                have HW := Aside0.mk (Q_HW (hoff 21 (by kernel_rfl)))
                have hb1 : (k : Int) < (l.length : Int) := by omega
                refine value_ (w1 := w') (v := .pointer (some (ad0.add k))) (by rfl) rfl ?_ ?_
                · go_simp
                  (try simp only [i64_w])
                  try rfl
                refine hK.out _ _ ⟨b_, s_, m20_, m22_, (by rw [ha.out]; exact putSel_upk 0 hb_ rfl rfl rfl), Q_HW, fun h0_ _ => absurd ((hoff 20 (by kernel_rfl)).symm.trans h0_) (by decide), fun h0_ => absurd ((hoff 21 (by kernel_rfl)).symm.trans h0_) (by decide), fun h0_ => absurd ((hoff 21 (by kernel_rfl)).symm.trans h0_) (by decide), fun h0_ => absurd ((hoff 21 (by kernel_rfl)).symm.trans h0_) (by decide), fun h0_ => absurd ((hoff 20 (by kernel_rfl)).symm.trans h0_) (by decide), fun h0_ => absurd ((hoff 22 (by kernel_rfl)).symm.trans h0_) (by decide)⟩
              refine steps_cons ?_ ?_
              · rintro b a w' ⟨b_, s_, m20_, m22_, ha, Q_HW, Q_HS, Q_H7, Q_H6, Q_H0, Q_X20_, Q_X22_⟩ hb_ hon hoff
                refine ⟨_, rfl, fun K hK => ?_⟩
                have e27 : a.tmps[27]? = some (.pointer (some (ad0.add k))) := by rw [ha]; exact putSel_on (e := (3, 27, .pointer (some (ad0.add k)))) 0 rfl rfl (hon 3 (by kernel_rfl)) rfl
                replace ha := Aside0.mk ha
                have HW := Aside0.mk (Q_HW (hoff 21 (by kernel_rfl)))
                have q0 := cells_at HW.out HC0.out
                refine value_ (w1 := w') (v := .int .i64 n) (by rfl) rfl ?_ ?_
                · go_simp
                  (try simp only [i64_w])
                  try rfl
                refine hK.out _ _ ⟨b_, s_, m20_, m22_, (by rw [ha.out]; exact putSel_upk 1 hb_ rfl rfl rfl), Q_HW, fun h0_ _ => absurd ((hoff 20 (by kernel_rfl)).symm.trans h0_) (by decide), fun h0_ => absurd ((hoff 21 (by kernel_rfl)).symm.trans h0_) (by decide), fun h0_ => absurd ((hoff 21 (by kernel_rfl)).symm.trans h0_) (by decide), fun h0_ => absurd ((hoff 21 (by kernel_rfl)).symm.trans h0_) (by decide), fun h0_ => absurd ((hoff 20 (by kernel_rfl)).symm.trans h0_) (by decide), fun h0_ => absurd ((hoff 22 (by kernel_rfl)).symm.trans h0_) (by decide)⟩
              refine steps_cons ?_ ?_
              · rintro b a w' ⟨b_, s_, m20_, m22_, ha, Q_HW, Q_HS, Q_H7, Q_H6, Q_H0, Q_X20_, Q_X22_⟩ hb_ hon hoff
                refine ⟨_, rfl, fun K hK => ?_⟩
                have e28 : a.tmps[28]? = some (.int .i64 n) := by rw [ha]; exact putSel_on (e := (4, 28, .int .i64 n)) 1 rfl rfl (hon 4 (by kernel_rfl)) rfl
                replace ha := Aside0.mk ha
                have HW := Aside0.mk (Q_HW (hoff 21 (by kernel_rfl)))
                refine value_ (w1 := w') (v := .int .i64 (bits .and .i64 n 3)) (by rfl) rfl ?_ ?_
                · go_simp
                  (try simp only [i64_w])
                  try rfl
                refine hK.out _ _ ⟨b_, s_, m20_, m22_, (by rw [ha.out]; exact putSel_upk 2 hb_ rfl rfl rfl), Q_HW, fun h0_ _ => absurd ((hoff 20 (by kernel_rfl)).symm.trans h0_) (by decide), fun h0_ => absurd ((hoff 21 (by kernel_rfl)).symm.trans h0_) (by decide), fun h0_ => absurd ((hoff 21 (by kernel_rfl)).symm.trans h0_) (by decide), fun h0_ => absurd ((hoff 21 (by kernel_rfl)).symm.trans h0_) (by decide), fun h0_ => absurd ((hoff 20 (by kernel_rfl)).symm.trans h0_) (by decide), fun h0_ => absurd ((hoff 22 (by kernel_rfl)).symm.trans h0_) (by decide)⟩
              refine steps_cons ?_ ?_
              · rintro b a w' ⟨b_, s_, m20_, m22_, ha, Q_HW, Q_HS, Q_H7, Q_H6, Q_H0, Q_X20_, Q_X22_⟩ hb_ hon hoff
                refine ⟨_, rfl, fun K hK => ?_⟩
                have e30 : a.tmps[30]? = some (.slice (some ad0) l.length c0) := by rw [ha]; exact (putSel_off rfl).trans rfl
                have e31 : a.tmps[31]? = some (.int .i64 (k : Int)) := by rw [ha]; exact (putSel_off rfl).trans rfl
                replace ha := Aside0.mk ha
                have HW := Aside0.mk (Q_HW (hoff 21 (by kernel_rfl)))
                have hb1 : (k : Int) < (l.length : Int) := by omega
                refine value_ (w1 := w') (v := .pointer (some (ad0.add k))) (by rfl) rfl ?_ ?_
                · go_simp
                  (try simp only [i64_w])
                  try rfl
                refine hK.out _ _ ⟨b_, s_, m20_, m22_, (by rw [ha.out]; exact putSel_upk 3 hb_ rfl rfl rfl), Q_HW, fun h0_ _ => absurd ((hoff 20 (by kernel_rfl)).symm.trans h0_) (by decide), fun h0_ => absurd ((hoff 21 (by kernel_rfl)).symm.trans h0_) (by decide), fun h0_ => absurd ((hoff 21 (by kernel_rfl)).symm.trans h0_) (by decide), fun h0_ => absurd ((hoff 21 (by kernel_rfl)).symm.trans h0_) (by decide), fun h0_ => absurd ((hoff 20 (by kernel_rfl)).symm.trans h0_) (by decide), fun h0_ => absurd ((hoff 22 (by kernel_rfl)).symm.trans h0_) (by decide)⟩
              refine steps_cons ?_ ?_
              · rintro b a w' ⟨b_, s_, m20_, m22_, ha, Q_HW, Q_HS, Q_H7, Q_H6, Q_H0, Q_X20_, Q_X22_⟩ hb_ hon hoff
                refine ⟨_, rfl, fun K hK => ?_⟩
                have e32 : a.tmps[32]? = some (.pointer (some (ad0.add k))) := by rw [ha]; exact putSel_on (e := (8, 32, .pointer (some (ad0.add k)))) 3 rfl rfl (hon 8 (by kernel_rfl)) rfl
                replace ha := Aside0.mk ha
                have HW := Aside0.mk (Q_HW (hoff 21 (by kernel_rfl)))
                have q0 := cells_at HW.out HC0.out
                refine value_ (w1 := w') (v := .int .i64 n) (by rfl) rfl ?_ ?_
                · go_simp
                  (try simp only [i64_w])
                  try rfl
                refine hK.out _ _ ⟨b_, s_, m20_, m22_, (by rw [ha.out]; exact putSel_upk 4 hb_ rfl rfl rfl), Q_HW, fun h0_ _ => absurd ((hoff 20 (by kernel_rfl)).symm.trans h0_) (by decide), fun h0_ => absurd ((hoff 21 (by kernel_rfl)).symm.trans h0_) (by decide), fun h0_ => absurd ((hoff 21 (by kernel_rfl)).symm.trans h0_) (by decide), fun h0_ => absurd ((hoff 21 (by kernel_rfl)).symm.trans h0_) (by decide), fun h0_ => absurd ((hoff 20 (by kernel_rfl)).symm.trans h0_) (by decide), fun h0_ => absurd ((hoff 22 (by kernel_rfl)).symm.trans h0_) (by decide)⟩
              refine steps_cons ?_ ?_
              · rintro b a w' ⟨b_, s_, m20_, m22_, ha, Q_HW, Q_HS, Q_H7, Q_H6, Q_H0, Q_X20_, Q_X22_⟩ hb_ hon hoff
                refine ⟨_, rfl, fun K hK => ?_⟩
                have e33 : a.tmps[33]? = some (.int .i64 n) := by rw [ha]; exact putSel_on (e := (9, 33, .int .i64 n)) 4 rfl rfl (hon 9 (by kernel_rfl)) rfl
                replace ha := Aside0.mk ha
                have HW := Aside0.mk (Q_HW (hoff 21 (by kernel_rfl)))
                refine value_ (w1 := w') (v := .int .i64 (n / 4)) (by rfl) rfl ?_ ?_
                · go_simp
                  (try simp only [i64_w])
                  try rfl
                refine hK.out _ _ ⟨b_, s_, m20_, m22_, (by rw [ha.out]; exact putSel_upk 5 hb_ rfl rfl rfl), Q_HW, fun h0_ _ => absurd ((hoff 20 (by kernel_rfl)).symm.trans h0_) (by decide), fun h0_ => absurd ((hoff 21 (by kernel_rfl)).symm.trans h0_) (by decide), fun h0_ => absurd ((hoff 21 (by kernel_rfl)).symm.trans h0_) (by decide), fun h0_ => absurd ((hoff 21 (by kernel_rfl)).symm.trans h0_) (by decide), fun h0_ => absurd ((hoff 20 (by kernel_rfl)).symm.trans h0_) (by decide), fun h0_ => absurd ((hoff 22 (by kernel_rfl)).symm.trans h0_) (by decide)⟩
              refine steps_cons ?_ ?_
              · rintro b a w' ⟨b_, s_, m20_, m22_, ha, Q_HW, Q_HS, Q_H7, Q_H6, Q_H0, Q_X20_, Q_X22_⟩ hb_ hon hoff
                refine ⟨_, rfl, fun K hK => ?_⟩
                have e34 : a.tmps[34]? = some (.int .i64 (n / 4)) := by rw [ha]; exact putSel_on (e := (10, 34, .int .i64 (n / 4))) 5 rfl rfl (hon 10 (by kernel_rfl)) rfl
                replace ha := Aside0.mk ha
                have HW := Aside0.mk (Q_HW (hoff 21 (by kernel_rfl)))
                refine value_ (w1 := w') (v := .int .i64 (bits .and .i64 (n / 4) 3)) (by rfl) rfl ?_ ?_
                · go_simp
                  (try simp only [i64_w])
                  try rfl
                refine hK.out _ _ ⟨b_, s_, m20_, m22_, (by rw [ha.out]; exact putSel_upk 6 hb_ rfl rfl rfl), Q_HW, fun h0_ _ => absurd ((hoff 20 (by kernel_rfl)).symm.trans h0_) (by decide), fun h0_ => absurd ((hoff 21 (by kernel_rfl)).symm.trans h0_) (by decide), fun h0_ => absurd ((hoff 21 (by kernel_rfl)).symm.trans h0_) (by decide), fun h0_ => absurd ((hoff 21 (by kernel_rfl)).symm.trans h0_) (by decide), fun h0_ => absurd ((hoff 20 (by kernel_rfl)).symm.trans h0_) (by decide), fun h0_ => absurd ((hoff 22 (by kernel_rfl)).symm.trans h0_) (by decide)⟩
              refine steps_cons ?_ ?_
              · rintro b a w' ⟨b_, s_, m20_, m22_, ha, Q_HW, Q_HS, Q_H7, Q_H6, Q_H0, Q_X20_, Q_X22_⟩ hb_ hon hoff
                refine ⟨_, rfl, fun K hK => ?_⟩
                have e36 : a.tmps[36]? = some (.slice (some ad0) l.length c0) := by rw [ha]; exact (putSel_off rfl).trans rfl
                have e37 : a.tmps[37]? = some (.int .i64 (k : Int)) := by rw [ha]; exact (putSel_off rfl).trans rfl
                replace ha := Aside0.mk ha
                have HW := Aside0.mk (Q_HW (hoff 21 (by kernel_rfl)))
                have hb1 : (k : Int) < (l.length : Int) := by omega
                refine value_ (w1 := w') (v := .pointer (some (ad0.add k))) (by rfl) rfl ?_ ?_
                · go_simp
                  (try simp only [i64_w])
                  try rfl
                refine hK.out _ _ ⟨b_, s_, m20_, m22_, (by rw [ha.out]; exact putSel_upk 7 hb_ rfl rfl rfl), Q_HW, fun h0_ _ => absurd ((hoff 20 (by kernel_rfl)).symm.trans h0_) (by decide), fun h0_ => absurd ((hoff 21 (by kernel_rfl)).symm.trans h0_) (by decide), fun h0_ => absurd ((hoff 21 (by kernel_rfl)).symm.trans h0_) (by decide), fun h0_ => absurd ((hoff 21 (by kernel_rfl)).symm.trans h0_) (by decide), fun h0_ => absurd ((hoff 20 (by kernel_rfl)).symm.trans h0_) (by decide), fun h0_ => absurd ((hoff 22 (by kernel_rfl)).symm.trans h0_) (by decide)⟩
              refine steps_cons ?_ ?_
              · rintro b a w' ⟨b_, s_, m20_, m22_, ha, Q_HW, Q_HS, Q_H7, Q_H6, Q_H0, Q_X20_, Q_X22_⟩ hb_ hon hoff
                refine ⟨_, rfl, fun K hK => ?_⟩
                have e38 : a.tmps[38]? = some (.pointer (some (ad0.add k))) := by rw [ha]; exact putSel_on (e := (14, 38, .pointer (some (ad0.add k)))) 7 rfl rfl (hon 14 (by kernel_rfl)) rfl
                replace ha := Aside0.mk ha
                have HW := Aside0.mk (Q_HW (hoff 21 (by kernel_rfl)))
                have q0 := cells_at HW.out HC0.out
                refine value_ (w1 := w') (v := .int .i64 n) (by rfl) rfl ?_ ?_
                · go_simp
                  (try simp only [i64_w])
                  try rfl
                refine hK.out _ _ ⟨b_, s_, m20_, m22_, (by rw [ha.out]; exact putSel_upk 8 hb_ rfl rfl rfl), Q_HW, fun h0_ _ => absurd ((hoff 20 (by kernel_rfl)).symm.trans h0_) (by decide), fun h0_ => absurd ((hoff 21 (by kernel_rfl)).symm.trans h0_) (by decide), fun h0_ => absurd ((hoff 21 (by kernel_rfl)).symm.trans h0_) (by decide), fun h0_ => absurd ((hoff 21 (by kernel_rfl)).symm.trans h0_) (by decide), fun h0_ => absurd ((hoff 20 (by kernel_rfl)).symm.trans h0_) (by decide), fun h0_ => absurd ((hoff 22 (by kernel_rfl)).symm.trans h0_) (by decide)⟩
              refine steps_cons ?_ ?_
              · rintro b a w' ⟨b_, s_, m20_, m22_, ha, Q_HW, Q_HS, Q_H7, Q_H6, Q_H0, Q_X20_, Q_X22_⟩ hb_ hon hoff
                refine ⟨_, rfl, fun K hK => ?_⟩
                have e39 : a.tmps[39]? = some (.int .i64 n) := by rw [ha]; exact putSel_on (e := (15, 39, .int .i64 n)) 8 rfl rfl (hon 15 (by kernel_rfl)) rfl
                replace ha := Aside0.mk ha
                have HW := Aside0.mk (Q_HW (hoff 21 (by kernel_rfl)))
                refine value_ (w1 := w') (v := .int .i64 (n / 16)) (by rfl) rfl ?_ ?_
                · go_simp
                  (try simp only [i64_w])
                  try rfl
                refine hK.out _ _ ⟨b_, s_, m20_, m22_, (by rw [ha.out]; exact putSel_upk 9 hb_ rfl rfl rfl), Q_HW, fun h0_ _ => absurd ((hoff 20 (by kernel_rfl)).symm.trans h0_) (by decide), fun h0_ => absurd ((hoff 21 (by kernel_rfl)).symm.trans h0_) (by decide), fun h0_ => absurd ((hoff 21 (by kernel_rfl)).symm.trans h0_) (by decide), fun h0_ => absurd ((hoff 21 (by kernel_rfl)).symm.trans h0_) (by decide), fun h0_ => absurd ((hoff 20 (by kernel_rfl)).symm.trans h0_) (by decide), fun h0_ => absurd ((hoff 22 (by kernel_rfl)).symm.trans h0_) (by decide)⟩
              refine steps_cons ?_ ?_
              · rintro b a w' ⟨b_, s_, m20_, m22_, ha, Q_HW, Q_HS, Q_H7, Q_H6, Q_H0, Q_X20_, Q_X22_⟩ hb_ hon hoff
                refine ⟨_, rfl, fun K hK => ?_⟩
                have e40 : a.tmps[40]? = some (.int .i64 (n / 16)) := by rw [ha]; exact putSel_on (e := (16, 40, .int .i64 (n / 16))) 9 rfl rfl (hon 16 (by kernel_rfl)) rfl
                replace ha := Aside0.mk ha
                have HW := Aside0.mk (Q_HW (hoff 21 (by kernel_rfl)))
                refine value_ (w1 := w') (v := .int .i64 (bits .and .i64 (n / 16) 3)) (by rfl) rfl ?_ ?_
                · go_simp
                  (try simp only [i64_w])
                  try rfl
                refine hK.out _ _ ⟨b_, s_, m20_, m22_, (by rw [ha.out]; exact putSel_upk 10 hb_ rfl rfl rfl), Q_HW, fun h0_ _ => absurd ((hoff 20 (by kernel_rfl)).symm.trans h0_) (by decide), fun h0_ => absurd ((hoff 21 (by kernel_rfl)).symm.trans h0_) (by decide), fun h0_ => absurd ((hoff 21 (by kernel_rfl)).symm.trans h0_) (by decide), fun h0_ => absurd ((hoff 21 (by kernel_rfl)).symm.trans h0_) (by decide), fun h0_ => absurd ((hoff 20 (by kernel_rfl)).symm.trans h0_) (by decide), fun h0_ => absurd ((hoff 22 (by kernel_rfl)).symm.trans h0_) (by decide)⟩
              refine steps_cons ?_ ?_
              · rintro b a w' ⟨b_, s_, m20_, m22_, ha, Q_HW, Q_HS, Q_H7, Q_H6, Q_H0, Q_X20_, Q_X22_⟩ hb_ hon hoff
                refine ⟨_, rfl, fun K hK => ?_⟩
                have e41 : a.tmps[41]? = some (.int .i64 (bits .and .i64 (n / 16) 3)) := by rw [ha]; exact putSel_on (e := (17, 41, .int .i64 (bits .and .i64 (n / 16) 3))) 10 rfl rfl (hon 17 (by kernel_rfl)) rfl
                replace ha := Aside0.mk ha
                have HW := Aside0.mk (Q_HW (hoff 21 (by kernel_rfl)))
                refine value_ (w1 := w') (v := .agg #[.int .i64 (bits .and .i64 (n / 16) 3), .int .i64 0]) (by rfl) rfl ?_ ?_
                · go_simp
                  (try simp only [i64_w])
                  try rfl
                refine hK.out _ _ ⟨b_, s_, m20_, m22_, (by rw [ha.out]; exact putSel_upk 11 hb_ rfl rfl rfl), Q_HW, fun h0_ _ => absurd ((hoff 20 (by kernel_rfl)).symm.trans h0_) (by decide), fun h0_ => absurd ((hoff 21 (by kernel_rfl)).symm.trans h0_) (by decide), fun h0_ => absurd ((hoff 21 (by kernel_rfl)).symm.trans h0_) (by decide), fun h0_ => absurd ((hoff 21 (by kernel_rfl)).symm.trans h0_) (by decide), fun h0_ => absurd ((hoff 20 (by kernel_rfl)).symm.trans h0_) (by decide), fun h0_ => absurd ((hoff 22 (by kernel_rfl)).symm.trans h0_) (by decide)⟩
              refine steps_cons ?_ ?_
              · rintro b a w' ⟨b_, s_, m20_, m22_, ha, Q_HW, Q_HS, Q_H7, Q_H6, Q_H0, Q_X20_, Q_X22_⟩ hb_ hon hoff
                refine ⟨_, rfl, fun K hK => ?_⟩
                have e29 : a.tmps[29]? = some (.int .i64 (bits .and .i64 n 3)) := by rw [ha]; exact putSel_on (e := (5, 29, .int .i64 (bits .and .i64 n 3))) 2 rfl rfl (hon 5 (by kernel_rfl)) rfl
                have e35 : a.tmps[35]? = some (.int .i64 (bits .and .i64 (n / 4) 3)) := by rw [ha]; exact putSel_on (e := (11, 35, .int .i64 (bits .and .i64 (n / 4) 3))) 6 rfl rfl (hon 11 (by kernel_rfl)) rfl
                have e42 : a.tmps[42]? = some (.agg #[.int .i64 (bits .and .i64 (n / 16) 3), .int .i64 0]) := by rw [ha]; exact putSel_on (e := (18, 42, .agg #[.int .i64 (bits .and .i64 (n / 16) 3), .int .i64 0])) 11 rfl rfl (hon 18 (by kernel_rfl)) rfl
                replace ha := Aside0.mk ha
                have HW := Aside0.mk (Q_HW (hoff 21 (by kernel_rfl)))
                refine value_ (w1 := w') (v := .agg #[.int .i64 (bits .and .i64 n 3), .int .i64 (bits .and .i64 (n / 4) 3), .int .i64 (bits .and .i64 (n / 16) 3), .int .i64 0]) (by rfl) rfl ?_ ?_
                · go_simp
                  (try simp only [i64_w])
                  try rfl
                refine hK.out _ _ ⟨b_, s_, m20_, m22_, (by rw [ha.out]; exact putSel_upk 12 hb_ rfl rfl rfl), Q_HW, fun h0_ _ => absurd ((hoff 20 (by kernel_rfl)).symm.trans h0_) (by decide), fun h0_ => absurd ((hoff 21 (by kernel_rfl)).symm.trans h0_) (by decide), fun h0_ => absurd ((hoff 21 (by kernel_rfl)).symm.trans h0_) (by decide), fun h0_ => absurd ((hoff 21 (by kernel_rfl)).symm.trans h0_) (by decide), fun h0_ => absurd ((hoff 20 (by kernel_rfl)).symm.trans h0_) (by decide), fun h0_ => absurd ((hoff 22 (by kernel_rfl)).symm.trans h0_) (by decide)⟩
              refine steps_cons ?_ ?_
              · rintro b a w' ⟨b_, s_, m20_, m22_, ha, Q_HW, Q_HS, Q_H7, Q_H6, Q_H0, Q_X20_, Q_X22_⟩ hb_ hon hoff
                refine ⟨_, rfl, fun K hK => ?_⟩
                have e43 : a.tmps[43]? = some (.agg #[.int .i64 (bits .and .i64 n 3), .int .i64 (bits .and .i64 (n / 4) 3), .int .i64 (bits .and .i64 (n / 16) 3), .int .i64 0]) := by rw [ha]; exact putSel_on (e := (19, 43, .agg #[.int .i64 (bits .and .i64 n 3), .int .i64 (bits .and .i64 (n / 4) 3), .int .i64 (bits .and .i64 (n / 16) 3), .int .i64 0])) 12 rfl rfl (hon 19 (by kernel_rfl)) rfl
                replace ha := Aside0.mk ha
                have HW := Aside0.mk (Q_HW (hoff 21 (by kernel_rfl)))
                refine value_ (w1 := w'.alloc (.cells #[.int .i64 (bits .and .i64 n 3), .int .i64 (bits .and .i64 (n / 4) 3), .int .i64 (bits .and .i64 (n / 16) 3), .int .i64 0] 25)) (v := .slice (some ⟨w'.heap.size, 0, none⟩) 1 1) (by rfl) rfl (by go_simp) ?_
                refine hK.out _ _ ⟨w'.heap.size, s_, (.slice (some ⟨w'.heap.size, 0, none⟩) 1 1), m22_, (by rw [ha.out]; exact putSel_upk 13 hb_ rfl rfl rfl), fun _ => below_alloc HW.out _, fun _ _ => blk_new w' _, fun h0_ => absurd ((hoff 21 (by kernel_rfl)).symm.trans h0_) (by decide), fun h0_ => absurd ((hoff 21 (by kernel_rfl)).symm.trans h0_) (by decide), fun h0_ => absurd ((hoff 21 (by kernel_rfl)).symm.trans h0_) (by decide), fun _ => rfl, fun h0_ => absurd ((hoff 22 (by kernel_rfl)).symm.trans h0_) (by decide)⟩
              refine steps_cons ?_ ?_
              · rintro b a w' ⟨b_, s_, m20_, m22_, ha, Q_HW, Q_HS, Q_H7, Q_H6, Q_H0, Q_X20_, Q_X22_⟩ hb_ hon hoff
                refine ⟨_, rfl, fun K hK => ?_⟩
                have e24 : a.tmps[24]? = some (u5) := by rw [ha]; exact (putSel_off rfl).trans rfl
                have e44 : a.tmps[44]? = some (m20_) := by rw [ha]; exact putSel_on (e := (20, 44, m20_)) 13 rfl rfl (hon 20 (by kernel_rfl)) rfl
                rw [Q_X20_ (hon 20 (by kernel_rfl))] at e44
                replace ha := Aside0.mk ha
                have HW := Aside0.mk (Q_HW hb_)
                have HS := Aside0.mk (Q_HS (hon 20 (by kernel_rfl)) hb_)
                refine cat_step kCr flatKM w w' w.heap.size (by rfl) (.tmp 24) (.tmp 44) 27 25 (.agg #[.int .i64 0, .int .i64 0, .int .i64 0, .int .i64 0]) 32 rfl Try.underlying27 infoCr rfl (by decide) (by omega) u5 cs [(bits .and .i64 n 3, bits .and .i64 (n / 4) 3, bits .and .i64 (n / 16) 3, 0)] (some ⟨b_, 0, none⟩) 1 1 (eval_of e24) (eval_of e44) (Kd.R_below HC.out HW.out) (C_flat_block (xs := [(bits .and .i64 n 3, bits .and .i64 (n / 4) 3, bits .and .i64 (n / 16) 3, 0)]) HS.out (by simp)) (below_step HB.out HW.out) (below_step HB.out HW.out).size (by have := HLC.out; omega) ?_
                intro v1 w1 ho hb hg
                refine hK.out _ _ ⟨b_, v1, m20_, m22_, (by rw [ha.out]; exact putSel_upk 14 hb_ rfl rfl rfl), fun h0_ => absurd ((up_self b 21).symm.trans h0_) (by decide), fun _ h1_ => absurd ((up_self b 21).symm.trans h1_) (by decide), fun _ => ho, fun _ => Kd.R_over (Kd.R_below HE.out HW.out) (Kd.R_below HC.out HW.out) pdl_cr hg, fun _ => hb, Q_X20_, fun h0_ => absurd ((hoff 22 (by kernel_rfl)).symm.trans h0_) (by decide)⟩
              refine steps_cons ?_ ?_
              · rintro b a w' ⟨b_, s_, m20_, m22_, ha, Q_HW, Q_HS, Q_H7, Q_H6, Q_H0, Q_X20_, Q_X22_⟩ hb_ hon hoff
                refine ⟨_, rfl, fun K hK => ?_⟩
                have e45 : a.tmps[45]? = some (s_) := by rw [ha]; exact putSel_on (e := (21, 45, s_)) 14 rfl rfl (hon 21 (by kernel_rfl)) rfl
                replace ha := Aside0.mk ha
                have H7 := Aside0.mk (Q_H7 (hon 21 (by kernel_rfl)))
                have H6 := Aside0.mk (Q_H6 (hon 21 (by kernel_rfl)))
                have H0 := Aside0.mk (Q_H0 (hon 21 (by kernel_rfl)))
                refine value_ (w1 := w') (v := s_) (by rfl) rfl ?_ ?_
                · go_simp
                  (try simp only [i64_w])
                  try rfl
                refine hK.out _ _ ⟨b_, s_, m20_, (s_), (by rw [ha.out]; exact putSel_upk 15 hb_ rfl rfl rfl), fun h0_ => absurd ((hon 21 (by kernel_rfl)).symm.trans h0_) (by decide), fun _ h1_ => absurd ((hon 21 (by kernel_rfl)).symm.trans h1_) (by decide), Q_H7, Q_H6, Q_H0, Q_X20_, fun _ => rfl⟩
              exact steps_nil
            · rintro b a w' hall ⟨b_, s_, m20_, m22_, ha, Q_HW, Q_HS, Q_H7, Q_H6, Q_H0, Q_X20_, Q_X22_⟩
              clear HW
              have hb3_ := hall 3 (by kernel_rfl)
              have hb4_ := hall 4 (by kernel_rfl)
              have hb5_ := hall 5 (by kernel_rfl)
              have hb8_ := hall 8 (by kernel_rfl)
              have hb9_ := hall 9 (by kernel_rfl)
              have hb10_ := hall 10 (by kernel_rfl)
              have hb11_ := hall 11 (by kernel_rfl)
              have hb14_ := hall 14 (by kernel_rfl)
              have hb15_ := hall 15 (by kernel_rfl)
              have hb16_ := hall 16 (by kernel_rfl)
              have hb17_ := hall 17 (by kernel_rfl)
              have hb18_ := hall 18 (by kernel_rfl)
              have hb19_ := hall 19 (by kernel_rfl)
              have hb20_ := hall 20 (by kernel_rfl)
              have hb21_ := hall 21 (by kernel_rfl)
              have hb22_ := hall 22 (by kernel_rfl)
              subst ha
              obtain rfl := Q_X20_ hb20_
              obtain rfl := Q_X22_ hb22_
              simp only [putSel, hb3_, hb4_, hb5_, hb8_, hb9_, hb10_, hb11_, hb14_, hb15_, hb16_, hb17_, hb18_, hb19_, hb20_, hb21_, hb22_, if_true, Act.put, List.setIfInBounds_toArray, List.set_cons_zero, List.set_cons_succ]
              clear Q_HW
              clear Q_HS
              have H7 := Aside0.mk (Q_H7 hb21_)
              clear Q_H7
              have H6 := Aside0.mk (Q_H6 hb21_)
              clear Q_H6
              have H0 := Aside0.mk (Q_H0 hb21_)
              clear Q_H0
              clear hall hb3_ hb4_ hb5_ hb8_ hb9_ hb10_ hb11_ hb14_ hb15_ hb16_ hb17_ hb18_ hb19_ hb20_ hb21_ hb22_
              go_wp2
              go_meet
              case rel => exact ⟨H7, H6, H0⟩
          case rest =>
            obtain ⟨G7, G6, G0⟩ := hcut
            replace HC0 := Aside0.mk (cells_at G0.out HC0w.out)
            clear HW HC HE HB
            have HW := Aside0.mk (Below.refl wc.heap.size wc)
            go_upto_region 7 with fail
            refine start_ (n := 17) (S := fun w' => True) (ds := []) #[false, false, false, false, false, false, false, false, false, false, false, false, false, false, false, false, false] (by kernel_rfl) rfl rfl trivial (fun hHeld => ?_)
            refine with_tabW lpReg.tab7 lpReg.bits7 (fun HT_ HW_ => ?_)
            refine pure_ (i := 0) (N := some 46) (v := ?_) (a' := ?_) #[true, false, false, false, false, false, false, false, false, false, false, false, false, false, false, false, false] rfl rfl (any_of HT_.out (by kernel_rfl)) (fun _ _ _ h => h) (Or.inl ⟨by rfl, ?_⟩) ?_ ?_
            rotate_left
            · intro w'
              go_simp
              with_reducible rfl
            rotate_left
            · simp only [Act.put, List.setIfInBounds_toArray, List.set_cons_zero, List.set_cons_succ, i64_w, i32_w]
              rfl
            refine pure_ (i := 1) (N := some 47) (v := ?_) (a' := ?_) #[true, true, false, false, false, false, false, false, false, false, false, false, false, false, false, false, false] rfl rfl (any_of HT_.out (by kernel_rfl)) (fun _ _ _ h => h) (Or.inl ⟨by rfl, ?_⟩) ?_ ?_
            rotate_left
            · intro w'
              go_simp
              with_reducible rfl
            rotate_left
            · simp only [Act.put, List.setIfInBounds_toArray, List.set_cons_zero, List.set_cons_succ, i64_w, i32_w]
              rfl
            refine pure_ (i := 2) (N := some 48) (v := ?_) (a' := ?_) #[true, true, true, false, false, false, false, false, false, false, false, false, false, false, false, false, false] rfl rfl (any_of HT_.out (by kernel_rfl)) (fun _ _ _ h => h) (Or.inl ⟨by rfl, ?_⟩) ?_ ?_
            rotate_left
            · intro w'
              go_simp
              with_reducible rfl
            rotate_left
            · simp only [Act.put, List.setIfInBounds_toArray, List.set_cons_zero, List.set_cons_succ, i64_w, i32_w]
              rfl
            refine pure_ (i := 6) (N := some 52) (v := ?_) (a' := ?_) #[true, true, true, false, false, false, true, false, false, false, false, false, false, false, false, false, false] rfl rfl (any_of HT_.out (by kernel_rfl)) (fun _ _ _ h => h) (Or.inl ⟨by rfl, ?_⟩) ?_ ?_
            rotate_left
            · intro w'
              go_simp
              with_reducible rfl
            rotate_left
            · simp only [Act.put, List.setIfInBounds_toArray, List.set_cons_zero, List.set_cons_succ, i64_w, i32_w]
              rfl
            refine pure_ (i := 7) (N := some 53) (v := ?_) (a' := ?_) #[true, true, true, false, false, false, true, true, false, false, false, false, false, false, false, false, false] rfl rfl (any_of HT_.out (by kernel_rfl)) (fun _ _ _ h => h) (Or.inl ⟨by rfl, ?_⟩) ?_ ?_
            rotate_left
            · intro w'
              go_simp
              with_reducible rfl
            rotate_left
            · simp only [Act.put, List.setIfInBounds_toArray, List.set_cons_zero, List.set_cons_succ, i64_w, i32_w]
              rfl
            refine inv_at [3, 4, 5, 8, 9, 10, 11, 12, 13, 14, 15, 16] (fun a0_ b a w' => ∃ (b_ : Nat) (s_ : Value) (m14_ : Value) (m16_ : Value), a = putSel a0_ b [(3, 49, .pointer (some (ad0.add k))), (4, 50, .int .i64 n), (5, 51, .int .i64 (bits .and .i64 n 7)), (8, 54, .pointer (some (ad0.add k))), (9, 55, .int .i64 n), (10, 56, .int .i64 (n / 8)), (11, 57, .int .i64 (bits .and .i64 (n / 8) 3)), (12, 58, .agg #[.int .i64 0, .int .i64 (bits .and .i64 (n / 8) 3)]), (13, 59, .agg #[.int .i64 (bits .and .i64 n 7), .int .i64 0, .int .i64 (bits .and .i64 (n / 8) 3), .slice none 0 0]), (14, 60, m14_), (15, 61, s_), (16, 6, m16_)] ∧ (b 15 = false → Below wc.heap.size wc w') ∧ (b 14 = true → b 15 = false → w'.heap[b_]? = some (.cells #[.int .i64 (bits .and .i64 n 7), .int .i64 0, .int .i64 (bits .and .i64 (n / 8) 3), .slice none 0 0] 39 (0, 0))) ∧ (b 15 = true → Kd.R kDl 39 w' w.heap.size (fun _ => True) s_ (ds ++ [(bits .and .i64 n 7, 0, bits .and .i64 (n / 8) 3, none, 0, 0)])) ∧ (b 15 = true → Kd.R kCr 25 w' w.heap.size (fun _ => True) u5 (cs ++ [(bits .and .i64 n 3, bits .and .i64 (n / 4) 3, bits .and .i64 (n / 16) 3, 0)])) ∧ (b 15 = true → Below w.heap.size w w') ∧ (b 14 = true → (m14_ : Value) = .slice (some ⟨b_, 0, none⟩) 1 1) ∧ (b 16 = true → (m16_ : Value) = s_)) HT_.out HW_.out (by kernel_rfl) (by kernel_rfl) ?_ ?_ ?_
            · exact ⟨0, .bool false, .bool false, .bool false, by simp only [putSel, Bool.false_eq_true, if_false], fun _ => below_drew HW.out, fun h_ => absurd h_ (by decide), fun h_ => absurd h_ (by decide), fun h_ => absurd h_ (by decide), fun h_ => absurd h_ (by decide), fun h_ => absurd h_ (by decide), fun h_ => absurd h_ (by decide)⟩
            · skip
              clear HW
              refine steps_cons ?_ ?_
              · rintro b a w' ⟨b_, s_, m14_, m16_, ha, Q_HW, Q_HS, Q_H8, Q_H7, Q_H0, Q_X14_, Q_X16_⟩ hb_ hon hoff
                refine ⟨_, rfl, fun K hK => ?_⟩
                have e47 : a.tmps[47]? = some (.slice (some ad0) l.length c0) := by rw [ha]; exact (putSel_off rfl).trans rfl
                have e48 : a.tmps[48]? = some (.int .i64 (k : Int)) := by rw [ha]; exact (putSel_off rfl).trans rfl
                replace ha := Aside0.mk ha
                have HW := Aside0.mk (Q_HW (hoff 15 (by kernel_rfl)))
                have hb1 : (k : Int) < (l.length : Int) := by omega
                refine value_ (w1 := w') (v := .pointer (some (ad0.add k))) (by rfl) rfl ?_ ?_
                · go_simp
                  (try simp only [i64_w])
                  try rfl
                refine hK.out _ _ ⟨b_, s_, m14_, m16_, (by rw [ha.out]; exact putSel_upk 0 hb_ rfl rfl rfl), Q_HW, fun h0_ _ => absurd ((hoff 14 (by kernel_rfl)).symm.trans h0_) (by decide), fun h0_ => absurd ((hoff 15 (by kernel_rfl)).symm.trans h0_) (by decide), fun h0_ => absurd ((hoff 15 (by kernel_rfl)).symm.trans h0_) (by decide), fun h0_ => absurd ((hoff 15 (by kernel_rfl)).symm.trans h0_) (by decide), fun h0_ => absurd ((hoff 14 (by kernel_rfl)).symm.trans h0_) (by decide), fun h0_ => absurd ((hoff 16 (by kernel_rfl)).symm.trans h0_) (by decide)⟩
              refine steps_cons ?_ ?_
              · rintro b a w' ⟨b_, s_, m14_, m16_, ha, Q_HW, Q_HS, Q_H8, Q_H7, Q_H0, Q_X14_, Q_X16_⟩ hb_ hon hoff
                refine ⟨_, rfl, fun K hK => ?_⟩
                have e49 : a.tmps[49]? = some (.pointer (some (ad0.add k))) := by rw [ha]; exact putSel_on (e := (3, 49, .pointer (some (ad0.add k)))) 0 rfl rfl (hon 3 (by kernel_rfl)) rfl
                replace ha := Aside0.mk ha
                have HW := Aside0.mk (Q_HW (hoff 15 (by kernel_rfl)))
                have q0 := cells_at HW.out HC0.out
                refine value_ (w1 := w') (v := .int .i64 n) (by rfl) rfl ?_ ?_
                · go_simp
                  (try simp only [i64_w])
                  try rfl
                refine hK.out _ _ ⟨b_, s_, m14_, m16_, (by rw [ha.out]; exact putSel_upk 1 hb_ rfl rfl rfl), Q_HW, fun h0_ _ => absurd ((hoff 14 (by kernel_rfl)).symm.trans h0_) (by decide), fun h0_ => absurd ((hoff 15 (by kernel_rfl)).symm.trans h0_) (by decide), fun h0_ => absurd ((hoff 15 (by kernel_rfl)).symm.trans h0_) (by decide), fun h0_ => absurd ((hoff 15 (by kernel_rfl)).symm.trans h0_) (by decide), fun h0_ => absurd ((hoff 14 (by kernel_rfl)).symm.trans h0_) (by decide), fun h0_ => absurd ((hoff 16 (by kernel_rfl)).symm.trans h0_) (by decide)⟩
              refine steps_cons ?_ ?_
              · rintro b a w' ⟨b_, s_, m14_, m16_, ha, Q_HW, Q_HS, Q_H8, Q_H7, Q_H0, Q_X14_, Q_X16_⟩ hb_ hon hoff
                refine ⟨_, rfl, fun K hK => ?_⟩
                have e50 : a.tmps[50]? = some (.int .i64 n) := by rw [ha]; exact putSel_on (e := (4, 50, .int .i64 n)) 1 rfl rfl (hon 4 (by kernel_rfl)) rfl
                replace ha := Aside0.mk ha
                have HW := Aside0.mk (Q_HW (hoff 15 (by kernel_rfl)))
                refine value_ (w1 := w') (v := .int .i64 (bits .and .i64 n 7)) (by rfl) rfl ?_ ?_
                · go_simp
                  (try simp only [i64_w])
                  try rfl
                refine hK.out _ _ ⟨b_, s_, m14_, m16_, (by rw [ha.out]; exact putSel_upk 2 hb_ rfl rfl rfl), Q_HW, fun h0_ _ => absurd ((hoff 14 (by kernel_rfl)).symm.trans h0_) (by decide), fun h0_ => absurd ((hoff 15 (by kernel_rfl)).symm.trans h0_) (by decide), fun h0_ => absurd ((hoff 15 (by kernel_rfl)).symm.trans h0_) (by decide), fun h0_ => absurd ((hoff 15 (by kernel_rfl)).symm.trans h0_) (by decide), fun h0_ => absurd ((hoff 14 (by kernel_rfl)).symm.trans h0_) (by decide), fun h0_ => absurd ((hoff 16 (by kernel_rfl)).symm.trans h0_) (by decide)⟩
              refine steps_cons ?_ ?_
              · rintro b a w' ⟨b_, s_, m14_, m16_, ha, Q_HW, Q_HS, Q_H8, Q_H7, Q_H0, Q_X14_, Q_X16_⟩ hb_ hon hoff
                refine ⟨_, rfl, fun K hK => ?_⟩
                have e52 : a.tmps[52]? = some (.slice (some ad0) l.length c0) := by rw [ha]; exact (putSel_off rfl).trans rfl
                have e53 : a.tmps[53]? = some (.int .i64 (k : Int)) := by rw [ha]; exact (putSel_off rfl).trans rfl
                replace ha := Aside0.mk ha
                have HW := Aside0.mk (Q_HW (hoff 15 (by kernel_rfl)))
                have hb1 : (k : Int) < (l.length : Int) := by omega
                refine value_ (w1 := w') (v := .pointer (some (ad0.add k))) (by rfl) rfl ?_ ?_
                · go_simp
                  (try simp only [i64_w])
                  try rfl
                refine hK.out _ _ ⟨b_, s_, m14_, m16_, (by rw [ha.out]; exact putSel_upk 3 hb_ rfl rfl rfl), Q_HW, fun h0_ _ => absurd ((hoff 14 (by kernel_rfl)).symm.trans h0_) (by decide), fun h0_ => absurd ((hoff 15 (by kernel_rfl)).symm.trans h0_) (by decide), fun h0_ => absurd ((hoff 15 (by kernel_rfl)).symm.trans h0_) (by decide), fun h0_ => absurd ((hoff 15 (by kernel_rfl)).symm.trans h0_) (by decide), fun h0_ => absurd ((hoff 14 (by kernel_rfl)).symm.trans h0_) (by decide), fun h0_ => absurd ((hoff 16 (by kernel_rfl)).symm.trans h0_) (by decide)⟩
              refine steps_cons ?_ ?_
              · rintro b a w' ⟨b_, s_, m14_, m16_, ha, Q_HW, Q_HS, Q_H8, Q_H7, Q_H0, Q_X14_, Q_X16_⟩ hb_ hon hoff
                refine ⟨_, rfl, fun K hK => ?_⟩
                have e54 : a.tmps[54]? = some (.pointer (some (ad0.add k))) := by rw [ha]; exact putSel_on (e := (8, 54, .pointer (some (ad0.add k)))) 3 rfl rfl (hon 8 (by kernel_rfl)) rfl
                replace ha := Aside0.mk ha
                have HW := Aside0.mk (Q_HW (hoff 15 (by kernel_rfl)))
                have q0 := cells_at HW.out HC0.out
                refine value_ (w1 := w') (v := .int .i64 n) (by rfl) rfl ?_ ?_
                · go_simp
                  (try simp only [i64_w])
                  try rfl
                refine hK.out _ _ ⟨b_, s_, m14_, m16_, (by rw [ha.out]; exact putSel_upk 4 hb_ rfl rfl rfl), Q_HW, fun h0_ _ => absurd ((hoff 14 (by kernel_rfl)).symm.trans h0_) (by decide), fun h0_ => absurd ((hoff 15 (by kernel_rfl)).symm.trans h0_) (by decide), fun h0_ => absurd ((hoff 15 (by kernel_rfl)).symm.trans h0_) (by decide), fun h0_ => absurd ((hoff 15 (by kernel_rfl)).symm.trans h0_) (by decide), fun h0_ => absurd ((hoff 14 (by kernel_rfl)).symm.trans h0_) (by decide), fun h0_ => absurd ((hoff 16 (by kernel_rfl)).symm.trans h0_) (by decide)⟩
              refine steps_cons ?_ ?_
              · rintro b a w' ⟨b_, s_, m14_, m16_, ha, Q_HW, Q_HS, Q_H8, Q_H7, Q_H0, Q_X14_, Q_X16_⟩ hb_ hon hoff
                refine ⟨_, rfl, fun K hK => ?_⟩
                have e55 : a.tmps[55]? = some (.int .i64 n) := by rw [ha]; exact putSel_on (e := (9, 55, .int .i64 n)) 4 rfl rfl (hon 9 (by kernel_rfl)) rfl
                replace ha := Aside0.mk ha
                have HW := Aside0.mk (Q_HW (hoff 15 (by kernel_rfl)))
                refine value_ (w1 := w') (v := .int .i64 (n / 8)) (by rfl) rfl ?_ ?_
                · go_simp
                  (try simp only [i64_w])
                  try rfl
                refine hK.out _ _ ⟨b_, s_, m14_, m16_, (by rw [ha.out]; exact putSel_upk 5 hb_ rfl rfl rfl), Q_HW, fun h0_ _ => absurd ((hoff 14 (by kernel_rfl)).symm.trans h0_) (by decide), fun h0_ => absurd ((hoff 15 (by kernel_rfl)).symm.trans h0_) (by decide), fun h0_ => absurd ((hoff 15 (by kernel_rfl)).symm.trans h0_) (by decide), fun h0_ => absurd ((hoff 15 (by kernel_rfl)).symm.trans h0_) (by decide), fun h0_ => absurd ((hoff 14 (by kernel_rfl)).symm.trans h0_) (by decide), fun h0_ => absurd ((hoff 16 (by kernel_rfl)).symm.trans h0_) (by decide)⟩
              refine steps_cons ?_ ?_
              · rintro b a w' ⟨b_, s_, m14_, m16_, ha, Q_HW, Q_HS, Q_H8, Q_H7, Q_H0, Q_X14_, Q_X16_⟩ hb_ hon hoff
                refine ⟨_, rfl, fun K hK => ?_⟩
                have e56 : a.tmps[56]? = some (.int .i64 (n / 8)) := by rw [ha]; exact putSel_on (e := (10, 56, .int .i64 (n / 8))) 5 rfl rfl (hon 10 (by kernel_rfl)) rfl
                replace ha := Aside0.mk ha
                have HW := Aside0.mk (Q_HW (hoff 15 (by kernel_rfl)))
                refine value_ (w1 := w') (v := .int .i64 (bits .and .i64 (n / 8) 3)) (by rfl) rfl ?_ ?_
                · go_simp
                  (try simp only [i64_w])
                  try rfl
                refine hK.out _ _ ⟨b_, s_, m14_, m16_, (by rw [ha.out]; exact putSel_upk 6 hb_ rfl rfl rfl), Q_HW, fun h0_ _ => absurd ((hoff 14 (by kernel_rfl)).symm.trans h0_) (by decide), fun h0_ => absurd ((hoff 15 (by kernel_rfl)).symm.trans h0_) (by decide), fun h0_ => absurd ((hoff 15 (by kernel_rfl)).symm.trans h0_) (by decide), fun h0_ => absurd ((hoff 15 (by kernel_rfl)).symm.trans h0_) (by decide), fun h0_ => absurd ((hoff 14 (by kernel_rfl)).symm.trans h0_) (by decide), fun h0_ => absurd ((hoff 16 (by kernel_rfl)).symm.trans h0_) (by decide)⟩
              refine steps_cons ?_ ?_
              · rintro b a w' ⟨b_, s_, m14_, m16_, ha, Q_HW, Q_HS, Q_H8, Q_H7, Q_H0, Q_X14_, Q_X16_⟩ hb_ hon hoff
                refine ⟨_, rfl, fun K hK => ?_⟩
                have e57 : a.tmps[57]? = some (.int .i64 (bits .and .i64 (n / 8) 3)) := by rw [ha]; exact putSel_on (e := (11, 57, .int .i64 (bits .and .i64 (n / 8) 3))) 6 rfl rfl (hon 11 (by kernel_rfl)) rfl
                replace ha := Aside0.mk ha
                have HW := Aside0.mk (Q_HW (hoff 15 (by kernel_rfl)))
                refine value_ (w1 := w') (v := .agg #[.int .i64 0, .int .i64 (bits .and .i64 (n / 8) 3)]) (by rfl) rfl ?_ ?_
                · go_simp
                  (try simp only [i64_w])
                  try rfl
                refine hK.out _ _ ⟨b_, s_, m14_, m16_, (by rw [ha.out]; exact putSel_upk 7 hb_ rfl rfl rfl), Q_HW, fun h0_ _ => absurd ((hoff 14 (by kernel_rfl)).symm.trans h0_) (by decide), fun h0_ => absurd ((hoff 15 (by kernel_rfl)).symm.trans h0_) (by decide), fun h0_ => absurd ((hoff 15 (by kernel_rfl)).symm.trans h0_) (by decide), fun h0_ => absurd ((hoff 15 (by kernel_rfl)).symm.trans h0_) (by decide), fun h0_ => absurd ((hoff 14 (by kernel_rfl)).symm.trans h0_) (by decide), fun h0_ => absurd ((hoff 16 (by kernel_rfl)).symm.trans h0_) (by decide)⟩
              refine steps_cons ?_ ?_
              · rintro b a w' ⟨b_, s_, m14_, m16_, ha, Q_HW, Q_HS, Q_H8, Q_H7, Q_H0, Q_X14_, Q_X16_⟩ hb_ hon hoff
                refine ⟨_, rfl, fun K hK => ?_⟩
                have e51 : a.tmps[51]? = some (.int .i64 (bits .and .i64 n 7)) := by rw [ha]; exact putSel_on (e := (5, 51, .int .i64 (bits .and .i64 n 7))) 2 rfl rfl (hon 5 (by kernel_rfl)) rfl
                have e58 : a.tmps[58]? = some (.agg #[.int .i64 0, .int .i64 (bits .and .i64 (n / 8) 3)]) := by rw [ha]; exact putSel_on (e := (12, 58, .agg #[.int .i64 0, .int .i64 (bits .and .i64 (n / 8) 3)])) 7 rfl rfl (hon 12 (by kernel_rfl)) rfl
                replace ha := Aside0.mk ha
                have HW := Aside0.mk (Q_HW (hoff 15 (by kernel_rfl)))
                refine value_ (w1 := w') (v := .agg #[.int .i64 (bits .and .i64 n 7), .int .i64 0, .int .i64 (bits .and .i64 (n / 8) 3), .slice none 0 0]) (by rfl) rfl ?_ ?_
                · go_simp
                  (try simp only [i64_w])
                  try rfl
                refine hK.out _ _ ⟨b_, s_, m14_, m16_, (by rw [ha.out]; exact putSel_upk 8 hb_ rfl rfl rfl), Q_HW, fun h0_ _ => absurd ((hoff 14 (by kernel_rfl)).symm.trans h0_) (by decide), fun h0_ => absurd ((hoff 15 (by kernel_rfl)).symm.trans h0_) (by decide), fun h0_ => absurd ((hoff 15 (by kernel_rfl)).symm.trans h0_) (by decide), fun h0_ => absurd ((hoff 15 (by kernel_rfl)).symm.trans h0_) (by decide), fun h0_ => absurd ((hoff 14 (by kernel_rfl)).symm.trans h0_) (by decide), fun h0_ => absurd ((hoff 16 (by kernel_rfl)).symm.trans h0_) (by decide)⟩
              refine steps_cons ?_ ?_
              · rintro b a w' ⟨b_, s_, m14_, m16_, ha, Q_HW, Q_HS, Q_H8, Q_H7, Q_H0, Q_X14_, Q_X16_⟩ hb_ hon hoff
                refine ⟨_, rfl, fun K hK => ?_⟩
                have e59 : a.tmps[59]? = some (.agg #[.int .i64 (bits .and .i64 n 7), .int .i64 0, .int .i64 (bits .and .i64 (n / 8) 3), .slice none 0 0]) := by rw [ha]; exact putSel_on (e := (13, 59, .agg #[.int .i64 (bits .and .i64 n 7), .int .i64 0, .int .i64 (bits .and .i64 (n / 8) 3), .slice none 0 0])) 8 rfl rfl (hon 13 (by kernel_rfl)) rfl
                replace ha := Aside0.mk ha
                have HW := Aside0.mk (Q_HW (hoff 15 (by kernel_rfl)))
                refine value_ (w1 := w'.alloc (.cells #[.int .i64 (bits .and .i64 n 7), .int .i64 0, .int .i64 (bits .and .i64 (n / 8) 3), .slice none 0 0] 39)) (v := .slice (some ⟨w'.heap.size, 0, none⟩) 1 1) (by rfl) rfl (by go_simp) ?_
                refine hK.out _ _ ⟨w'.heap.size, s_, (.slice (some ⟨w'.heap.size, 0, none⟩) 1 1), m16_, (by rw [ha.out]; exact putSel_upk 9 hb_ rfl rfl rfl), fun _ => below_alloc HW.out _, fun _ _ => blk_new w' _, fun h0_ => absurd ((hoff 15 (by kernel_rfl)).symm.trans h0_) (by decide), fun h0_ => absurd ((hoff 15 (by kernel_rfl)).symm.trans h0_) (by decide), fun h0_ => absurd ((hoff 15 (by kernel_rfl)).symm.trans h0_) (by decide), fun _ => rfl, fun h0_ => absurd ((hoff 16 (by kernel_rfl)).symm.trans h0_) (by decide)⟩
              refine steps_cons ?_ ?_
              · rintro b a w' ⟨b_, s_, m14_, m16_, ha, Q_HW, Q_HS, Q_H8, Q_H7, Q_H0, Q_X14_, Q_X16_⟩ hb_ hon hoff
                refine ⟨_, rfl, fun K hK => ?_⟩
                have e46 : a.tmps[46]? = some (u6) := by rw [ha]; exact (putSel_off rfl).trans rfl
                have e60 : a.tmps[60]? = some (m14_) := by rw [ha]; exact putSel_on (e := (14, 60, m14_)) 9 rfl rfl (hon 14 (by kernel_rfl)) rfl
                rw [Q_X14_ (hon 14 (by kernel_rfl))] at e60
                replace ha := Aside0.mk ha
                have HW := Aside0.mk (Q_HW hb_)
                have HS := Aside0.mk (Q_HS (hon 14 (by kernel_rfl)) hb_)
                refine cat_step kDl flatKM w w' w.heap.size (by rfl) (.tmp 46) (.tmp 60) 36 39 (.agg #[.int .i64 0, .int .i64 0, .int .i64 0, .slice none 0 0]) 48 rfl Try.underlying36 pinfoDl rfl (by decide) (by omega) u6 ds [(bits .and .i64 n 7, 0, bits .and .i64 (n / 8) 3, none, 0, 0)] (some ⟨b_, 0, none⟩) 1 1 (eval_of e46) (eval_of e60) (Kd.R_below G6.out HW.out) (C_flat_block (xs := [(bits .and .i64 n 7, 0, bits .and .i64 (n / 8) 3, none, 0, 0)]) HS.out (by simp)) (below_step G0.out HW.out) (below_step G0.out HW.out).size (by have := HLD.out; omega) ?_
                intro v1 w1 ho hb hg
                refine hK.out _ _ ⟨b_, v1, m14_, m16_, (by rw [ha.out]; exact putSel_upk 10 hb_ rfl rfl rfl), fun h0_ => absurd ((up_self b 15).symm.trans h0_) (by decide), fun _ h1_ => absurd ((up_self b 15).symm.trans h1_) (by decide), fun _ => ho, fun _ => Kd.R_over (Kd.R_below G7.out HW.out) (Kd.R_below G6.out HW.out) pcr_dl hg, fun _ => hb, Q_X14_, fun h0_ => absurd ((hoff 16 (by kernel_rfl)).symm.trans h0_) (by decide)⟩
              refine steps_cons ?_ ?_
              · rintro b a w' ⟨b_, s_, m14_, m16_, ha, Q_HW, Q_HS, Q_H8, Q_H7, Q_H0, Q_X14_, Q_X16_⟩ hb_ hon hoff
                refine ⟨_, rfl, fun K hK => ?_⟩
                have e61 : a.tmps[61]? = some (s_) := by rw [ha]; exact putSel_on (e := (15, 61, s_)) 10 rfl rfl (hon 15 (by kernel_rfl)) rfl
                replace ha := Aside0.mk ha
                have H8 := Aside0.mk (Q_H8 (hon 15 (by kernel_rfl)))
                have H7 := Aside0.mk (Q_H7 (hon 15 (by kernel_rfl)))
                have H0 := Aside0.mk (Q_H0 (hon 15 (by kernel_rfl)))
                refine value_ (w1 := w') (v := s_) (by rfl) rfl ?_ ?_
                · go_simp
                  (try simp only [i64_w])
                  try rfl
                refine hK.out _ _ ⟨b_, s_, m14_, (s_), (by rw [ha.out]; exact putSel_upk 11 hb_ rfl rfl rfl), fun h0_ => absurd ((hon 15 (by kernel_rfl)).symm.trans h0_) (by decide), fun _ h1_ => absurd ((hon 15 (by kernel_rfl)).symm.trans h1_) (by decide), Q_H8, Q_H7, Q_H0, Q_X14_, fun _ => rfl⟩
              exact steps_nil
            · rintro b a w' hall ⟨b_, s_, m14_, m16_, ha, Q_HW, Q_HS, Q_H8, Q_H7, Q_H0, Q_X14_, Q_X16_⟩
              clear HW
              have hb3_ := hall 3 (by kernel_rfl)
              have hb4_ := hall 4 (by kernel_rfl)
              have hb5_ := hall 5 (by kernel_rfl)
              have hb8_ := hall 8 (by kernel_rfl)
              have hb9_ := hall 9 (by kernel_rfl)
              have hb10_ := hall 10 (by kernel_rfl)
              have hb11_ := hall 11 (by kernel_rfl)
              have hb12_ := hall 12 (by kernel_rfl)
              have hb13_ := hall 13 (by kernel_rfl)
              have hb14_ := hall 14 (by kernel_rfl)
              have hb15_ := hall 15 (by kernel_rfl)
              have hb16_ := hall 16 (by kernel_rfl)
              subst ha
              obtain rfl := Q_X14_ hb14_
              obtain rfl := Q_X16_ hb16_
              simp only [putSel, hb3_, hb4_, hb5_, hb8_, hb9_, hb10_, hb11_, hb12_, hb13_, hb14_, hb15_, hb16_, if_true, Act.put, List.setIfInBounds_toArray, List.set_cons_zero, List.set_cons_succ]
              clear Q_HW
              clear Q_HS
              have H8 := Aside0.mk (Q_H8 hb15_)
              clear Q_H8
              have H7 := Aside0.mk (Q_H7 hb15_)
              clear Q_H7
              have H0 := Aside0.mk (Q_H0 hb15_)
              clear Q_H0
              clear hall hb3_ hb4_ hb5_ hb8_ hb9_ hb10_ hb11_ hb12_ hb13_ hb14_ hb15_ hb16_
              go_wp2
              go_roundw
              case rel => exact ⟨k + 1, cs ++ [(bits .and .i64 n 3, bits .and .i64 (n / 4) 3, bits .and .i64 (n / 16) 3, 0)], ds ++ [(bits .and .i64 n 7, 0, bits .and .i64 (n / 8) 3, none, 0, 0)], by omega, by go_num, by simp [HLC.out], by simp [HLD.out], ⟨pc_snocX HM.out n⟩, ⟨pd_snocX HD.out n⟩, H7, H8, H0⟩
              case measure => simp [intOf]; omega
        · go_wp2_with fail
          go_meet
          case rel => exact ⟨cs, ds, by omega, by omega, HM, HD, HC, HE, HB⟩
      · go_wp2_with fail
        go_meet
        case rel => exact ⟨cs, ds, by omega, by omega, HM, HD, HC, HE, HB⟩
  case rest =>
    obtain ⟨cs, ds, hcl, hdl, HM, HD, HC, HE, HB⟩ := hcut
    obtain ⟨W0, rfl⟩ : ∃ W0 : World, W0 = wc := ⟨_, rfl⟩
    obtain ⟨A5, c5, rfl, hc5, hC5⟩ := Kd.R_reads HC.out
    obtain ⟨A6, c6, rfl, hc6, hC6⟩ := Kd.R_reads HE.out
    obtain ⟨kk, hkk, HWI⟩ : ∃ kk : Nat, kk ≤ cs.length ∧ Aside0 (∀ W, Calls Try.prog 11 #[.int .i64 cut_, .int .i64 0, .int .i64 (cs.length : Int)] W fun e w' => e = .returned (.int .i64 (kk : Int)) ∧ W = w') := by
      have h1 := within_bd cut_ 0 (cs.length : Int) (by omega)
      refine ⟨(within cut_ 0 (cs.length : Int)).toNat, by omega, ⟨fun W => ?_⟩⟩
      have h2 := within_calls cut_ 0 (cs.length : Int) W (by omega) (by omega) (by omega)
      rwa [show (((within cut_ 0 (cs.length : Int)).toNat : Nat) : Int) = within cut_ 0 (cs.length : Int) by omega]
    obtain ⟨⟨hs1, hCt⟩, Ad, cd, hs2, hCd⟩ := cuts kCr 27 25 Try.underlying27 infoCr hC5 hc5 kk hkk
    obtain ⟨-, Ae, ce, hs3, hCe⟩ := cuts kDl 36 39 Try.underlying36 pinfoDl hC6 hc6 kk (by omega)
    have htd : cs = cs.take kk ++ cs.drop kk := (List.take_append_drop kk cs).symm
    have hsp := single_parts (ds := ds) kk
    have hLt : (cs.take kk).length ≤ 14 := by rw [List.length_take]; omega
    have hLd : (cs.drop kk).length ≤ 14 := by rw [List.length_drop]; omega
    have hLe : (ds.drop kk).length ≤ 14 := by rw [List.length_drop]; omega
    have hOe : ∀ x ∈ ds.drop kk, GtOk (gt x) := fun x hx => pd_gtok HD.out x (List.mem_of_mem_drop hx)
    generalize cs.take kk = tk at *
    generalize cs.drop kk = dr at *
    generalize ds.drop kk = de at *
    have HTD := Lib.hid htd
    have HSP := Lib.hid hsp
    have HDL := Lib.hid hdl
    have hdl2 : ds.length ≤ 14 := by omega
    have HOc := Aside0.mk (pc_crok HM.out)
    have HOd := Aside0.mk (pd_gtok HD.out)
    have HOt : Aside0 (∀ x ∈ tk, CrOk x) := ⟨fun x hx => HOc.out x (by rw [HTD.out]; simp [hx])⟩
    have HOr : Aside0 (∀ x ∈ dr, CrOk x) := ⟨fun x hx => HOc.out x (by rw [HTD.out]; simp [hx])⟩
    have HOe := Aside0.mk hOe
    have HC5 := Aside0.mk hC5
    have HC6 := Aside0.mk hC6
    have HCt := Aside0.mk hCt
    have HCd := Aside0.mk hCd
    have HCe := Aside0.mk hCe
    clear hC5 hC6 hCt hCd hCe htd hsp hdl hOe HC HE HR hc5 hc6
    obtain ⟨b1, x1, x2, h1, H1a, H1b, H1c, H1t⟩ : ∃ b1 x1 x2 : Bool, (b1 = true → x1 = true ∧ x2 = true) ∧ Aside0 (∀ W, Below W0.heap.size W0 W → Calls Try.prog 9 #[.slice A5 cs.length c5] W fun e w' => e = .returned (.bool b1) ∧ Below W.heap.size W w') ∧
        Aside0 (∀ W, Below W0.heap.size W0 W → Calls Try.prog 9 #[.slice A5 tk.length c5] W fun e w' => e = .returned (.bool x1) ∧ Below W.heap.size W w') ∧ Aside0 (∀ W, Below W0.heap.size W0 W → Calls Try.prog 9 #[.slice Ad dr.length cd] W fun e w' => e = .returned (.bool x2) ∧ Below W.heap.size W w') ∧ Hid (decide (dr ++ tk).Nodup = b1) := by
      refine ⟨decide cs.Nodup, decide tk.Nodup, decide dr.Nodup, fun h => ?_, ⟨fun W hW => once_calls A5 c5 cs W (Kd.C_below HC5.out hW) HOc.out (by omega)⟩, ⟨fun W hW => once_calls A5 c5 tk W (Kd.C_below HCt.out hW) HOt.out (by omega)⟩, ⟨fun W hW => once_calls Ad cd dr W (Kd.C_below HCd.out hW) HOr.out (by omega)⟩, Lib.hid (nodup_turn HTD.out)⟩
      have := nodup_parts HTD.out (of_decide_eq_true h)
      exact ⟨decide_eq_true this.1, decide_eq_true this.2⟩
    obtain ⟨b2, y1, y2, h2, H2a, H2b, H2c, H2t⟩ : ∃ b1 x1 x2 : Bool, (b1 = true → x1 = true ∧ x2 = true) ∧ Aside0 (∀ W, Below W0.heap.size W0 W → Calls Try.prog 8 #[.slice A5 cs.length c5] W fun e w' => e = .returned (.bool b1) ∧ Below W.heap.size W w') ∧
        Aside0 (∀ W, Below W0.heap.size W0 W → Calls Try.prog 8 #[.slice A5 tk.length c5] W fun e w' => e = .returned (.bool x1) ∧ Below W.heap.size W w') ∧ Aside0 (∀ W, Below W0.heap.size W0 W → Calls Try.prog 8 #[.slice Ad dr.length cd] W fun e w' => e = .returned (.bool x2) ∧ Below W.heap.size W w') ∧ Hid (decide (OneWay (dr ++ tk)) = b1) := by
      refine ⟨decide (OneWay cs), decide (OneWay tk), decide (OneWay dr), fun h => ?_, ⟨fun W hW => oneway_calls A5 c5 cs W (Kd.C_below HC5.out hW) HOc.out (by omega)⟩, ⟨fun W hW => oneway_calls A5 c5 tk W (Kd.C_below HCt.out hW) HOt.out (by omega)⟩, ⟨fun W hW => oneway_calls Ad cd dr W (Kd.C_below HCd.out hW) HOr.out (by omega)⟩, Lib.hid (oneway_turn HTD.out)⟩
      have := oneway_parts HTD.out (of_decide_eq_true h)
      exact ⟨decide_eq_true this.1, decide_eq_true this.2⟩
    obtain ⟨b3, z2, h3, H3a, H3c⟩ : ∃ b1 x2 : Bool, (b1 = true → x2 = true) ∧ Aside0 (∀ W, Below W0.heap.size W0 W → Calls Try.prog 10 #[.slice A6 ds.length c6] W fun e w' => e = .returned (.bool b1) ∧ Below W.heap.size W w') ∧
        Aside0 (∀ W, Below W0.heap.size W0 W → Calls Try.prog 10 #[.slice Ae de.length ce] W fun e w' => e = .returned (.bool x2) ∧ Below W.heap.size W w') := by
      refine ⟨decide (ds.map gt).Nodup, decide (de.map gt).Nodup, fun h => decide_eq_true (HSP.out (of_decide_eq_true h)), ⟨fun W hW => single_calls A6 c6 ds W (Kd.C_below HC6.out hW) HOd.out (by omega)⟩, ⟨fun W hW => single_calls Ae ce de W (Kd.C_below HCe.out hW) HOe.out (by omega)⟩⟩
    have HW := Aside0.mk (Below.refl W0.heap.size W0)
    go_upto_region 9 with (first | (go_at_call 11; refine (HWI.out _).mono ?_; rintro e w1 ⟨rfl, rfl⟩))
    go_cut [110] (fun v wx => v = .bool false ∧ Aside0 (Below W0.heap.size W0 wx))
    case first =>
      clear HSP HTD HM HD HOc HOd HOt HOr HOe HC5 HC6 HCt HCd HCe HDL HWI H1t H2t
      have k1 : b1 = false ∨ (b1 = true ∧ x1 = true ∧ x2 = true) := by cases b1 with | false => exact .inl rfl | true => exact .inr ⟨rfl, h1 rfl⟩
      have k2 : b2 = false ∨ (b2 = true ∧ y1 = true ∧ y2 = true) := by cases b2 with | false => exact .inl rfl | true => exact .inr ⟨rfl, h2 rfl⟩
      have k3 : b3 = false ∨ (b3 = true ∧ z2 = true) := by cases b3 with | false => exact .inl rfl | true => exact .inr ⟨rfl, h3 rfl⟩
      clear h1 h2 h3
      rcases k1 with rfl | ⟨rfl, rfl, rfl⟩
      all_goals (rcases k2 with rfl | ⟨rfl, rfl, rfl⟩)
      all_goals (rcases k3 with rfl | ⟨rfl, rfl⟩)
      all_goals
        go_wp2_with (first | (go_at_call 9; (first | (with_reducible refine (H1a.out _ HW.out).mono ?_) | (with_reducible refine (H1b.out _ HW.out).mono ?_) | (with_reducible refine (H1c.out _ HW.out).mono ?_)); rintro e w1 ⟨rfl, hB⟩; replace HW := Aside0.mk (below_step HW.out hB); clear hB) | (go_at_call 8; (first | (with_reducible refine (H2a.out _ HW.out).mono ?_) | (with_reducible refine (H2b.out _ HW.out).mono ?_) | (with_reducible refine (H2c.out _ HW.out).mono ?_)); rintro e w1 ⟨rfl, hB⟩; replace HW := Aside0.mk (below_step HW.out hB); clear hB) | (go_at_call 10; (first | (with_reducible refine (H3a.out _ HW.out).mono ?_) | (with_reducible refine (H3c.out _ HW.out).mono ?_)); rintro e w1 ⟨rfl, hB⟩; replace HW := Aside0.mk (below_step HW.out hB); clear hB))
        go_meet
        case rel => exact ⟨rfl, HW⟩
    case rest =>
      obtain ⟨rfl, HW2⟩ := hcut
      clear HW
      have HW := HW2
      clear HW2 h1 H1b H1c h2 H2b H2c h3 H3a H3c HSP HWI HCe HOe
      go_upto_region 11 with fail
      go_cut [9] (fun v wx => Aside0 (Kd.R kCr 25 wx W0.heap.size (fun _ => True) v (dr ++ tk)) ∧ Aside0 (Below W0.heap.size W0 wx))
      case first =>
        refine start_ (n := 10) (S := fun w' => True) (ds := []) #[false, false, false, false, false, false, false, false, false, false] (by kernel_rfl) rfl rfl trivial (fun hHeld => ?_)
        refine with_tabW lpReg.tab11 lpReg.bits11 (fun HT_ HW_ => ?_)
        refine pure_ (i := 1) (N := some 112) (v := ?_) (a' := ?_) #[false, true, false, false, false, false, false, false, false, false] rfl rfl (any_of HT_.out (by kernel_rfl)) (fun _ _ _ h => h) (Or.inl ⟨by rfl, ?_⟩) ?_ ?_
        rotate_left
        · intro w'
          go_simp
          with_reducible rfl
        rotate_left
        · simp only [Act.put, List.setIfInBounds_toArray, List.set_cons_zero, List.set_cons_succ, i64_w, i32_w]
          rfl
        refine pure_ (i := 2) (N := some 113) (v := ?_) (a' := ?_) #[false, true, true, false, false, false, false, false, false, false] rfl rfl (any_of HT_.out (by kernel_rfl)) (fun _ _ _ h => h) (Or.inl ⟨by rfl, ?_⟩) ?_ ?_
        rotate_left
        · intro w'
          go_simp
          with_reducible rfl
        rotate_left
        · simp only [Act.put, List.setIfInBounds_toArray, List.set_cons_zero, List.set_cons_succ, i64_w, i32_w]
          rfl
        refine pure_ (i := 3) (N := some 114) (v := ?_) (a' := ?_) #[false, true, true, true, false, false, false, false, false, false] rfl rfl (any_of HT_.out (by kernel_rfl)) (fun _ _ _ h => h) (Or.inl ⟨by rfl, ?_⟩) ?_ ?_
        rotate_left
        · intro w'
          go_simp
          with_reducible rfl
        rotate_left
        · simp only [Act.put, List.setIfInBounds_toArray, List.set_cons_zero, List.set_cons_succ, i64_w, i32_w]
          rfl
        refine pure_ (i := 5) (N := some 116) (v := ?_) (a' := ?_) #[false, true, true, true, false, true, false, false, false, false] rfl rfl (any_of HT_.out (by kernel_rfl)) (fun _ _ _ h => h) (Or.inl ⟨by rfl, ?_⟩) ?_ ?_
        rotate_left
        · intro w'
          go_simp
          with_reducible rfl
        rotate_left
        · simp only [Act.put, List.setIfInBounds_toArray, List.set_cons_zero, List.set_cons_succ, i64_w, i32_w]
          rfl
        refine pure_ (i := 6) (N := some 117) (v := ?_) (a' := ?_) #[false, true, true, true, false, true, true, false, false, false] rfl rfl (any_of HT_.out (by kernel_rfl)) (fun _ _ _ h => h) (Or.inl ⟨by rfl, ?_⟩) ?_ ?_
        rotate_left
        · intro w'
          go_simp
          with_reducible rfl
        rotate_left
        · simp only [Act.put, List.setIfInBounds_toArray, List.set_cons_zero, List.set_cons_succ, i64_w, i32_w]
          rfl
        refine pure_ (i := 7) (N := some 118) (v := ?_) (a' := ?_) #[false, true, true, true, false, true, true, true, false, false] rfl rfl (any_of HT_.out (by kernel_rfl)) (fun _ _ _ h => h) (Or.inl ⟨by rfl, ?_⟩) ?_ ?_
        rotate_left
        · intro w'
          go_simp
          with_reducible rfl
        rotate_left
        · simp only [Act.put, List.setIfInBounds_toArray, List.set_cons_zero, List.set_cons_succ, i64_w, i32_w]
          rfl
        refine inv_at [0, 4, 8, 9] (fun a0_ b a w' => ∃ (b0_ : Nat) (s4_ : Value) (s8_ : Value) (m0_ : Value) (m9_ : Value), a = putSel a0_ b [(0, 111, m0_), (4, 115, s4_), (8, 119, s8_), (9, 9, m9_)] ∧ (Below W0.heap.size W0 w') ∧ (b 0 = true → b 4 = false → Kd.R kCr 25 w' W0.heap.size (fun _ => True) (.slice (some ⟨b0_, 0, none⟩) 0 0) ([])) ∧ (b 4 = true → b 8 = false → Kd.R kCr 25 w' W0.heap.size (fun _ => True) (s4_) (dr)) ∧ (b 8 = true → Kd.R kCr 25 w' W0.heap.size (fun _ => True) (s8_) (dr ++ tk)) ∧ (b 0 = true → (m0_ : Value) = .slice (some ⟨b0_, 0, none⟩) 0 0) ∧ (b 9 = true → (m9_ : Value) = s8_)) HT_.out HW_.out (by kernel_rfl) (by kernel_rfl) ?_ ?_ ?_
        · exact ⟨0, .bool false, .bool false, .bool false, .bool false, by simp only [putSel, Bool.false_eq_true, if_false], below_drew HW.out, fun h_ => absurd h_ (by decide), fun h_ => absurd h_ (by decide), fun h_ => absurd h_ (by decide), fun h_ => absurd h_ (by decide), fun h_ => absurd h_ (by decide)⟩
        · skip
          clear HW
          refine steps_cons ?_ ?_
          · rintro b a w' ⟨b0_, s4_, s8_, m0_, m9_, ha, Q_HW, Q_H0, Q_H4, Q_H9, Q_X0_, Q_X9_⟩ hb_ hon hoff
            refine ⟨_, rfl, fun K hK => ?_⟩
            replace ha := Aside0.mk ha
            have HW := Aside0.mk Q_HW
            refine value_ (w1 := w'.alloc (.cells #[] 25)) (v := .slice (some ⟨w'.heap.size, 0, none⟩) 0 0) (by rfl) rfl (by go_simp) ?_
            refine hK.out _ _ ⟨w'.heap.size, s4_, s8_, (.slice (some ⟨w'.heap.size, 0, none⟩) 0 0), m9_, (by rw [ha.out]; exact putSel_upk 0 hb_ rfl rfl rfl), below_alloc HW.out _, fun _ _ => Kd.R_lower (pown_emptyCr w') HW.out.size, fun h0_ _ => absurd ((hoff 4 (by kernel_rfl)).symm.trans h0_) (by decide), fun h0_ => absurd ((hoff 8 (by kernel_rfl)).symm.trans h0_) (by decide), fun _ => rfl, fun h0_ => absurd ((hoff 9 (by kernel_rfl)).symm.trans h0_) (by decide)⟩
          refine steps_cons ?_ ?_
          · rintro b a w' ⟨b0_, s4_, s8_, m0_, m9_, ha, Q_HW, Q_H0, Q_H4, Q_H9, Q_X0_, Q_X9_⟩ hb_ hon hoff
            refine ⟨_, rfl, fun K hK => ?_⟩
            have e111 : a.tmps[111]? = some (m0_) := by rw [ha]; exact putSel_on (e := (0, 111, m0_)) 0 rfl rfl (hon 0 (by kernel_rfl)) rfl
            rw [Q_X0_ (hon 0 (by kernel_rfl))] at e111
            have e114 : a.tmps[114]? = some (.slice Ad dr.length cd) := by rw [ha]; exact (putSel_off rfl).trans rfl
            replace ha := Aside0.mk ha
            have HW := Aside0.mk Q_HW
            have H0 := Aside0.mk (Q_H0 (hon 0 (by kernel_rfl)) hb_)
            refine cat_step kCr flatKM W0 w' W0.heap.size (by rfl) (.tmp 111) (.tmp 114) 27 25 (.agg #[.int .i64 0, .int .i64 0, .int .i64 0, .int .i64 0]) 32 rfl Try.underlying27 infoCr rfl (by decide) (by omega) (.slice (some ⟨b0_, 0, none⟩) 0 0) ([]) (dr) (Ad) (dr.length) (cd) (eval_of e111) (eval_of e114) (H0.out) (Kd.C_below HCd.out HW.out) HW.out HW.out.size (by simp; omega) ?_
            intro v1 w1 ho hb hg
            rw [List.nil_append] at ho
            refine hK.out _ _ ⟨b0_, v1, s8_, m0_, m9_, (by rw [ha.out]; exact putSel_upk 1 hb_ rfl rfl rfl), hb, fun _ h1_ => absurd ((up_self b 4).symm.trans h1_) (by decide), fun _ _ => ho, fun h0_ => absurd ((hoff 8 (by kernel_rfl)).symm.trans h0_) (by decide), Q_X0_, fun h0_ => absurd ((hoff 9 (by kernel_rfl)).symm.trans h0_) (by decide)⟩
          refine steps_cons ?_ ?_
          · rintro b a w' ⟨b0_, s4_, s8_, m0_, m9_, ha, Q_HW, Q_H0, Q_H4, Q_H9, Q_X0_, Q_X9_⟩ hb_ hon hoff
            refine ⟨_, rfl, fun K hK => ?_⟩
            have e115 : a.tmps[115]? = some (s4_) := by rw [ha]; exact putSel_on (e := (4, 115, s4_)) 1 rfl rfl (hon 4 (by kernel_rfl)) rfl
            have e118 : a.tmps[118]? = some (.slice A5 tk.length c5) := by rw [ha]; exact (putSel_off rfl).trans rfl
            replace ha := Aside0.mk ha
            have HW := Aside0.mk Q_HW
            have H4 := Aside0.mk (Q_H4 (hon 4 (by kernel_rfl)) hb_)
            refine cat_step kCr flatKM W0 w' W0.heap.size (by rfl) (.tmp 115) (.tmp 118) 27 25 (.agg #[.int .i64 0, .int .i64 0, .int .i64 0, .int .i64 0]) 32 rfl Try.underlying27 infoCr rfl (by decide) (by omega) (s4_) (dr) (tk) (A5) (tk.length) (c5) (eval_of e115) (eval_of e118) (H4.out) (Kd.C_below HCt.out HW.out) HW.out HW.out.size (by omega) ?_
            intro v1 w1 ho hb hg
            refine hK.out _ _ ⟨b0_, s4_, v1, m0_, m9_, (by rw [ha.out]; exact putSel_upk 2 hb_ rfl rfl rfl), hb, fun _ h1_ => absurd ((hon 4 (by kernel_rfl)).symm.trans h1_) (by decide), fun _ h1_ => absurd ((up_self b 8).symm.trans h1_) (by decide), fun _ => ho, Q_X0_, fun h0_ => absurd ((hoff 9 (by kernel_rfl)).symm.trans h0_) (by decide)⟩
          refine steps_cons ?_ ?_
          · rintro b a w' ⟨b0_, s4_, s8_, m0_, m9_, ha, Q_HW, Q_H0, Q_H4, Q_H9, Q_X0_, Q_X9_⟩ hb_ hon hoff
            refine ⟨_, rfl, fun K hK => ?_⟩
            have e119 : a.tmps[119]? = some (s8_) := by rw [ha]; exact putSel_on (e := (8, 119, s8_)) 2 rfl rfl (hon 8 (by kernel_rfl)) rfl
            replace ha := Aside0.mk ha
            have HW := Aside0.mk Q_HW
            have H9 := Aside0.mk (Q_H9 (hon 8 (by kernel_rfl)))
            refine value_ (w1 := w') (v := s8_) (by rfl) rfl ?_ ?_
            · go_simp
              (try simp only [i64_w])
              try rfl
            refine hK.out _ _ ⟨b0_, s4_, s8_, m0_, (s8_), (by rw [ha.out]; exact putSel_upk 3 hb_ rfl rfl rfl), Q_HW, fun _ h1_ => absurd ((hon 4 (by kernel_rfl)).symm.trans h1_) (by decide), fun _ h1_ => absurd ((hon 8 (by kernel_rfl)).symm.trans h1_) (by decide), Q_H9, Q_X0_, fun _ => rfl⟩
          exact steps_nil
        · rintro b a w' hall ⟨b0_, s4_, s8_, m0_, m9_, ha, Q_HW, Q_H0, Q_H4, Q_H9, Q_X0_, Q_X9_⟩
          clear HW
          have hb0_ := hall 0 (by kernel_rfl)
          have hb4_ := hall 4 (by kernel_rfl)
          have hb8_ := hall 8 (by kernel_rfl)
          have hb9_ := hall 9 (by kernel_rfl)
          subst ha
          obtain rfl := Q_X0_ hb0_
          obtain rfl := Q_X9_ hb9_
          simp only [putSel, hb0_, hb4_, hb8_, hb9_, if_true, Act.put, List.setIfInBounds_toArray, List.set_cons_zero, List.set_cons_succ]
          have HW := Aside0.mk Q_HW
          clear Q_HW
          clear Q_H0
          clear Q_H4
          have H9 := Aside0.mk (Q_H9 hb8_)
          clear Q_H9
          clear hall hb0_ hb4_ hb8_ hb9_
          go_wp2
          go_meet
          case rel => exact ⟨H9, HW⟩
      case rest =>
        obtain ⟨H9, HW2⟩ := hcut
        clear HW
        obtain ⟨W1, rfl⟩ : ∃ W1 : World, W1 = wc := ⟨_, rfl⟩
        have hOn : ∀ x ∈ dr ++ tk, CrOk x := fun x hx => by rcases List.mem_append.1 hx with hx | hx; exact HOr.out x hx; exact HOt.out x hx
        have hLn : (dr ++ tk).length ≤ 28 := by rw [List.length_append]; omega
        have h1t := H1t.out
        have h2t := H2t.out
        have h9 := H9.out
        generalize dr ++ tk = tn at *
        obtain ⟨A9, c9, rfl, hc9, hC9⟩ := Kd.R_reads h9
        have HC9 := Aside0.mk hC9
        have HOn := Aside0.mk hOn
        clear h9 H9 H1t H2t hC9 hc9 hOn
        have HG1 : Aside0 (∀ W, Below W1.heap.size W1 W → Calls Try.prog 9 #[.slice A5 cs.length c5] W fun e w' => e = .returned (.bool b1) ∧ Below W.heap.size W w') := ⟨fun W hW => H1a.out W (below_step HW2.out hW)⟩
        have HG2 : Aside0 (∀ W, Below W1.heap.size W1 W → Calls Try.prog 8 #[.slice A5 cs.length c5] W fun e w' => e = .returned (.bool b2) ∧ Below W.heap.size W w') := ⟨fun W hW => H2a.out W (below_step HW2.out hW)⟩
        have HN1 : Aside0 (∀ W, Below W1.heap.size W1 W → Calls Try.prog 9 #[.slice A9 tn.length c9] W fun e w' => e = .returned (.bool b1) ∧ Below W.heap.size W w') := ⟨fun W hW => by have := once_calls A9 c9 tn W (Kd.C_below HC9.out hW) HOn.out (by omega); rwa [h1t] at this⟩
        have HN2 : Aside0 (∀ W, Below W1.heap.size W1 W → Calls Try.prog 8 #[.slice A9 tn.length c9] W fun e w' => e = .returned (.bool b2) ∧ Below W.heap.size W w') := ⟨fun W hW => by have := oneway_calls A9 c9 tn W (Kd.C_below HC9.out hW) HOn.out (by omega); rwa [h2t] at this⟩
        have HZ1 : Aside0 (∀ W, Below W1.heap.size W1 W → Calls Try.prog 9 #[.slice none 0 0] W fun e w' => e = .returned (.bool true) ∧ Below W.heap.size W w') := ⟨fun W hW => once_calls none 0 [] W (C_nil W) (fun x h => by cases h) (by simp)⟩
        have HZ2 : Aside0 (∀ W, Below W1.heap.size W1 W → Calls Try.prog 8 #[.slice none 0 0] W fun e w' => e = .returned (.bool true) ∧ Below W.heap.size W w') := ⟨fun W hW => by have := oneway_calls none 0 [] W (C_nil W) (fun x h => by cases h) (by simp); have hz : decide (OneWay []) = true := decide_eq_true (fun x h => by cases h); rwa [hz] at this⟩
        have HZ3 : Aside0 (∀ W, Below W1.heap.size W1 W → Calls Try.prog 7 #[.slice none 0 0, .agg #[.int .i64 0, .int .i64 0], .int .i64 3] W fun e w' => e = .returned (.bool true) ∧ Below W.heap.size W w') := ⟨fun W hW => tree_calls none 0 [] (0, 0) 3 W (C_nil W) (fun x h => by cases h) (inI64 (by omega) (by omega)) (by simp)⟩
        have HU1 : Aside0 (∀ j : Nat, ∃ q : Nat, q ≤ 14 ∧ sumC cs (j + 1) = sumC cs j + q ∧ ∀ W, Below W1.heap.size W1 W → Calls Try.prog 12 #[.slice A5 cs.length c5, .agg #[.int .i64 (j : Int), .int .i64 0]] W fun e w' => ∃ A c, e = .returned (.slice A q c) ∧ Below W.heap.size W w') := ⟨fun j => ⟨(ofL cs ((j : Int), 0)).length, by have := ofL_len cs ((j : Int), 0); omega, rfl, fun W hW => (of_calls A5 c5 cs ((j : Int), 0) W (Kd.C_below HC5.out (below_step HW2.out hW)) (by omega)).mono fun e w' ⟨v, he, hR, hB⟩ => by obtain ⟨A, c, rfl, _, _⟩ := Kd.R_reads hR; exact ⟨A, c, he, hB⟩⟩⟩
        have HU2 : Aside0 (∀ j : Nat, ∃ q : Nat, q ≤ 14 ∧ sumD ds (j + 1) = sumD ds j + q ∧ ∀ W, Below W1.heap.size W1 W → Calls Try.prog 14 #[.slice A6 ds.length c6, .agg #[.int .i64 0, .int .i64 (j : Int)]] W fun e w' => ∃ A c, e = .returned (.slice A q c) ∧ Below W.heap.size W w') := ⟨fun j => ⟨(toL ds (0, (j : Int))).length, by have := toL_len ds (0, (j : Int)); omega, rfl, fun W hW => (to_calls A6 c6 ds (0, (j : Int)) W (Kd.C_below HC6.out (below_step HW2.out hW)) (by omega)).mono fun e w' ⟨v, he, hR, hB⟩ => by obtain ⟨A, c, rfl, _, _⟩ := Kd.R_reads hR; exact ⟨A, c, he, hB⟩⟩⟩
        have HF : Aside0 (∀ j : Nat, ∃ l0 l1 l2 : List Pr, l1.length ≤ 14 ∧ l2.length ≤ 14 ∧ l0 = l1 ++ l2 ∧ (∀ W, Below W1.heap.size W1 W → Calls Try.prog 12 #[.slice A5 cs.length c5, .agg #[.int .i64 (j : Int), .int .i64 0]] W fun e w' => ∃ v, e = .returned v ∧ Kd.R kPr 46 w' W.heap.size (fun _ => True) v l0 ∧ Below W.heap.size W w') ∧
            (∀ W, Below W1.heap.size W1 W → Calls Try.prog 12 #[.slice A5 tk.length c5, .agg #[.int .i64 (j : Int), .int .i64 0]] W fun e w' => ∃ v, e = .returned v ∧ Kd.R kPr 46 w' W.heap.size (fun _ => True) v l1 ∧ Below W.heap.size W w') ∧
            ∀ W, Below W1.heap.size W1 W → Calls Try.prog 12 #[.slice Ad dr.length cd, .agg #[.int .i64 (j : Int), .int .i64 0]] W fun e w' => ∃ v, e = .returned v ∧ Kd.R kPr 46 w' W.heap.size (fun _ => True) v l2 ∧ Below W.heap.size W w') :=
          ⟨fun j => ⟨ofL cs ((j : Int), 0), ofL tk ((j : Int), 0), ofL dr ((j : Int), 0), by have := ofL_len tk ((j : Int), 0); omega, by have := ofL_len dr ((j : Int), 0); omega, ofL_parts HTD.out _, fun W hW => of_calls A5 c5 cs ((j : Int), 0) W (Kd.C_below HC5.out (below_step HW2.out hW)) (by omega), fun W hW => of_calls A5 c5 tk ((j : Int), 0) W (Kd.C_below HCt.out (below_step HW2.out hW)) (by omega), fun W hW => of_calls Ad cd dr ((j : Int), 0) W (Kd.C_below HCd.out (below_step HW2.out hW)) (by omega)⟩⟩
        replace HB := Aside0.mk (below_step HB.out HW2.out)
        have HSC := Aside0.mk (sumC_le cs HM.out)
        have HSD := Aside0.mk (sumD_le ds HD.out)
        have HAC := Lib.hid (sumC_all HM.out)
        have HAD := Lib.hid (sumD_all HD.out)
        clear h1t h2t H1a H2a HC5 HC6 HCt HCd HOc HOd HOt HOr HTD HM HD HC9 HOn HW2
        have HW := Aside0.mk (Below.refl W1.heap.size W1)
        go_wp2_with fail
        go_loopw [120, 10, 11] (fun t n m wr => ∃ j n1 n2 : Nat, j ≤ 4 ∧ n1 ≤ 14 ∧ n2 ≤ 14 ∧ t = .int .i64 (j : Int) ∧ n = .int .i64 (n1 : Int) ∧ m = .int .i64 (n2 : Int) ∧ Aside0 (sumC cs j = n1) ∧ Aside0 (sumD ds j = n2) ∧ Aside0 (Below W1.heap.size W1 wr)) (fun t _ _ _ => 4 - (intOf t).toNat)
        case atStart => exact ⟨0, 0, 0, by omega, by omega, by omega, rfl, rfl, rfl, ⟨rfl⟩, ⟨rfl⟩, HW⟩
        case round =>
          obtain ⟨j, n1, n2, hj, hn1, hn2, rfl, rfl, rfl, HS1, HS2, HW1⟩ := hrel
          clear HW
          by_cases hlt : j < 4
          · obtain ⟨q1, hq1, hs1q, hOf⟩ := HU1.out j
            obtain ⟨q2, hq2, hs2q, hTo⟩ := HU2.out j
            obtain ⟨l0, l1, l2, hl1, hl2, hl0, hF0, hF1, hF2⟩ := HF.out j
            have HS1n : Hid (sumC cs (j + 1) = n1 + q1) := Lib.hid (by rw [hs1q, HS1.out])
            have HS2n : Hid (sumD ds (j + 1) = n2 + q2) := Lib.hid (by rw [hs2q, HS2.out])
            have hn3 : n1 + q1 ≤ 14 := by have := HSC.out (j + 1); rw [HS1n.out] at this; omega
            have hn4 : n2 + q2 ≤ 14 := by have := HSD.out (j + 1); rw [HS2n.out] at this; omega
            have HL := Lib.hid hl0
            have HQ1 := Aside0.mk hOf
            have HQ2 := Aside0.mk hTo
            have HP := Aside0.mk (blk_new wr (.cells #[.int .i64 (j : Int), .int .i64 0] 23))
            have HWa := Aside0.mk (below_alloc HW1.out (.cells #[.int .i64 (j : Int), .int .i64 0] 23))
            clear hs1q hs2q hl0 hOf hTo
            go_upto_region 17 with fail
            generalize (wr.alloc (.cells #[.int .i64 (j : Int), .int .i64 0] 23)) = wd at *
            have HF0 : Aside0 (∀ W, Below wd.heap.size wd W → Calls Try.prog 12 #[.slice A5 cs.length c5, .agg #[.int .i64 (j : Int), .int .i64 0]] W fun e w' => ∃ v, e = .returned v ∧ Kd.R kPr 46 w' W.heap.size (fun _ => True) v l0 ∧ Below W.heap.size W w') := ⟨fun W hW => hF0 W (below_step HWa.out hW)⟩
            have HF1 : Aside0 (∀ W, Below wd.heap.size wd W → Calls Try.prog 12 #[.slice A5 tk.length c5, .agg #[.int .i64 (j : Int), .int .i64 0]] W fun e w' => ∃ v, e = .returned v ∧ Kd.R kPr 46 w' W.heap.size (fun _ => True) v l1 ∧ Below W.heap.size W w') := ⟨fun W hW => hF1 W (below_step HWa.out hW)⟩
            have HF2 : Aside0 (∀ W, Below wd.heap.size wd W → Calls Try.prog 12 #[.slice Ad dr.length cd, .agg #[.int .i64 (j : Int), .int .i64 0]] W fun e w' => ∃ v, e = .returned v ∧ Kd.R kPr 46 w' W.heap.size (fun _ => True) v l2 ∧ Below W.heap.size W w') := ⟨fun W hW => hF2 W (below_step HWa.out hW)⟩
            clear hF0 hF1 hF2
            have HW := Aside0.mk (Below.refl wd.heap.size wd)
            go_cut [142] from 121 to 156 (fun v wx => v = .bool false ∧ Aside0 (Below wd.heap.size wd wx))
            case first =>
              refine start_ (n := 18) (S := fun w' => True) (ds := []) #[false, false, false, false, false, false, false, false, false, false, false, false, false, false, false, false, false, false] (by kernel_rfl) rfl rfl trivial (fun hHeld => ?_)
              refine with_tabW lpReg.tab17 lpReg.bits17 (fun HT_ HW_ => ?_)
              refine pure_ (i := 0) (N := some 125) (v := ?_) (a' := ?_) #[true, false, false, false, false, false, false, false, false, false, false, false, false, false, false, false, false, false] rfl rfl (any_of HT_.out (by kernel_rfl)) (fun _ _ _ h => h) (Or.inl ⟨by rfl, ?_⟩) ?_ ?_
              rotate_left
              · intro w'
                go_simp
                with_reducible rfl
              rotate_left
              · simp only [Act.put, List.setIfInBounds_toArray, List.set_cons_zero, List.set_cons_succ, i64_w, i32_w]
                rfl
              refine pure_ (i := 4) (N := some 129) (v := ?_) (a' := ?_) #[true, false, false, false, true, false, false, false, false, false, false, false, false, false, false, false, false, false] rfl rfl (any_of HT_.out (by kernel_rfl)) (fun _ _ _ h => h) (Or.inl ⟨by rfl, ?_⟩) ?_ ?_
              rotate_left
              · intro w'
                go_simp
                with_reducible rfl
              rotate_left
              · simp only [Act.put, List.setIfInBounds_toArray, List.set_cons_zero, List.set_cons_succ, i64_w, i32_w]
                rfl
              refine pure_ (i := 5) (N := some 130) (v := ?_) (a' := ?_) #[true, false, false, false, true, true, false, false, false, false, false, false, false, false, false, false, false, false] rfl rfl (any_of HT_.out (by kernel_rfl)) (fun _ _ _ h => h) (Or.inl ⟨by rfl, ?_⟩) ?_ ?_
              rotate_left
              · intro w'
                go_simp
                with_reducible rfl
              rotate_left
              · simp only [Act.put, List.setIfInBounds_toArray, List.set_cons_zero, List.set_cons_succ, i64_w, i32_w]
                rfl
              refine pure_ (i := 6) (N := some 131) (v := ?_) (a' := ?_) #[true, false, false, false, true, true, true, false, false, false, false, false, false, false, false, false, false, false] rfl rfl (any_of HT_.out (by kernel_rfl)) (fun _ _ _ h => h) (Or.inl ⟨by rfl, ?_⟩) ?_ ?_
              rotate_left
              · intro w'
                go_simp
                with_reducible rfl
              rotate_left
              · simp only [Act.put, List.setIfInBounds_toArray, List.set_cons_zero, List.set_cons_succ, i64_w, i32_w]
                rfl
              refine pure_ (i := 10) (N := some 135) (v := ?_) (a' := ?_) #[true, false, false, false, true, true, true, false, false, false, true, false, false, false, false, false, false, false] rfl rfl (any_of HT_.out (by kernel_rfl)) (fun _ _ _ h => h) (Or.inl ⟨by rfl, ?_⟩) ?_ ?_
              rotate_left
              · intro w'
                go_simp
                with_reducible rfl
              rotate_left
              · simp only [Act.put, List.setIfInBounds_toArray, List.set_cons_zero, List.set_cons_succ, i64_w, i32_w]
                rfl
              refine pure_ (i := 11) (N := some 136) (v := ?_) (a' := ?_) #[true, false, false, false, true, true, true, false, false, false, true, true, false, false, false, false, false, false] rfl rfl (any_of HT_.out (by kernel_rfl)) (fun _ _ _ h => h) (Or.inl ⟨by rfl, ?_⟩) ?_ ?_
              rotate_left
              · intro w'
                go_simp
                with_reducible rfl
              rotate_left
              · simp only [Act.put, List.setIfInBounds_toArray, List.set_cons_zero, List.set_cons_succ, i64_w, i32_w]
                rfl
              refine pure_ (i := 12) (N := some 137) (v := ?_) (a' := ?_) #[true, false, false, false, true, true, true, false, false, false, true, true, true, false, false, false, false, false] rfl rfl (any_of HT_.out (by kernel_rfl)) (fun _ _ _ h => h) (Or.inl ⟨by rfl, ?_⟩) ?_ ?_
              rotate_left
              · intro w'
                go_simp
                with_reducible rfl
              rotate_left
              · simp only [Act.put, List.setIfInBounds_toArray, List.set_cons_zero, List.set_cons_succ, i64_w, i32_w]
                rfl
              refine inv_at [1, 2, 3, 7, 8, 9, 13, 14, 15, 16, 17] (fun a0_ b a w' => ∃ (b3_ : Nat) (s2_ : Value) (s8_ : Value) (s9_ : Value) (s14_ : Value) (s15_ : Value) (m3_ : Value), a = putSel a0_ b [(1, 126, .agg #[.int .i64 (j : Int), .int .i64 0]), (2, 127, s2_), (3, 128, m3_), (7, 132, .agg #[.int .i64 (j : Int), .int .i64 0]), (8, 133, s8_), (9, 134, s9_), (13, 138, .agg #[.int .i64 (j : Int), .int .i64 0]), (14, 139, s14_), (15, 140, s15_), (16, 141, .bool true), (17, 142, .bool false)] ∧ (Below wd.heap.size wd w') ∧ (b 2 = true → b 16 = false → Kd.R kPr 46 w' wd.heap.size (fun _ => True) (s2_) (l0)) ∧ (b 3 = true → b 9 = false → Kd.R kPr 46 w' wd.heap.size (fun _ => True) (.slice (some ⟨b3_, 0, none⟩) 0 0) ([])) ∧ (b 8 = true → b 9 = false → Kd.R kPr 46 w' wd.heap.size (fun _ => True) (s8_) (l1)) ∧ (b 9 = true → b 15 = false → Kd.R kPr 46 w' wd.heap.size (fun _ => True) (s9_) (l1)) ∧ (b 14 = true → b 15 = false → Kd.R kPr 46 w' wd.heap.size (fun _ => True) (s14_) (l2)) ∧ (b 15 = true → b 16 = false → Kd.R kPr 46 w' wd.heap.size (fun _ => True) (s15_) (l1 ++ l2)) ∧ (b 2 = true → b 3 = true → b 9 = false → some b3_ ≠ (s2_ : Value).ownBlock) ∧ (b 3 = true → b 14 = true → b 9 = false → some b3_ ≠ (s14_ : Value).ownBlock) ∧ (b 2 = true → b 9 = true → b 15 = false → ∀ k, (s9_ : Value).ownBlock = some k → some k ≠ (s2_ : Value).ownBlock) ∧ (b 3 = true → (m3_ : Value) = .slice (some ⟨b3_, 0, none⟩) 0 0)) HT_.out HW_.out (by kernel_rfl) (by kernel_rfl) ?_ ?_ ?_
              · exact ⟨0, .bool false, .bool false, .bool false, .bool false, .bool false, .bool false, by simp only [putSel, Bool.false_eq_true, if_false], below_drew HW.out, fun h_ => absurd h_ (by decide), fun h_ => absurd h_ (by decide), fun h_ => absurd h_ (by decide), fun h_ => absurd h_ (by decide), fun h_ => absurd h_ (by decide), fun h_ => absurd h_ (by decide), fun h_ => absurd h_ (by decide), fun h_ => absurd h_ (by decide), fun h_ => absurd h_ (by decide), fun h_ => absurd h_ (by decide)⟩
              · skip
                clear HW
                refine steps_cons ?_ ?_
                · rintro b a w' ⟨b3_, s2_, s8_, s9_, s14_, s15_, m3_, ha, Q_HW, Q_H2, Q_H3, Q_H8, Q_H9, Q_H14, Q_H15, Q_N2, Q_N14, Q_M2, Q_X3_⟩ hb_ hon hoff
                  refine ⟨_, rfl, fun K hK => ?_⟩
                  have e13 : a.tmps[13]? = some (.pointer (some ⟨wr.heap.size, 0, none⟩)) := by rw [ha]; exact (putSel_off rfl).trans rfl
                  replace ha := Aside0.mk ha
                  have HW := Aside0.mk Q_HW
                  have q0 := cells_at HW.out (blk_cell HP.out 0)
                  have q1 := cells_at HW.out (blk_cell HP.out 1)
                  refine value_ (w1 := w') (v := .agg #[.int .i64 (j : Int), .int .i64 0]) (by rfl) rfl ?_ ?_
                  · go_simp
                    (try simp only [i64_w])
                    try rfl
                  refine hK.out _ _ ⟨b3_, s2_, s8_, s9_, s14_, s15_, m3_, (by rw [ha.out]; exact putSel_upk 0 hb_ rfl rfl rfl), Q_HW, fun h0_ _ => absurd ((hoff 2 (by kernel_rfl)).symm.trans h0_) (by decide), Q_H3, fun h0_ _ => absurd ((hoff 8 (by kernel_rfl)).symm.trans h0_) (by decide), fun h0_ _ => absurd ((hoff 9 (by kernel_rfl)).symm.trans h0_) (by decide), fun h0_ _ => absurd ((hoff 14 (by kernel_rfl)).symm.trans h0_) (by decide), fun h0_ _ => absurd ((hoff 15 (by kernel_rfl)).symm.trans h0_) (by decide), fun h0_ _ _ => absurd ((hoff 2 (by kernel_rfl)).symm.trans h0_) (by decide), fun _ h1_ _ => absurd ((hoff 14 (by kernel_rfl)).symm.trans h1_) (by decide), fun h0_ _ _ => absurd ((hoff 2 (by kernel_rfl)).symm.trans h0_) (by decide), Q_X3_⟩
                refine steps_cons ?_ ?_
                · rintro b a w' ⟨b3_, s2_, s8_, s9_, s14_, s15_, m3_, ha, Q_HW, Q_H2, Q_H3, Q_H8, Q_H9, Q_H14, Q_H15, Q_N2, Q_N14, Q_M2, Q_X3_⟩ hb_ hon hoff
                  refine ⟨_, rfl, fun K hK => ?_⟩
                  have e125 : a.tmps[125]? = some (.slice A5 cs.length c5) := by rw [ha]; exact (putSel_off rfl).trans rfl
                  have e126 : a.tmps[126]? = some (.agg #[.int .i64 (j : Int), .int .i64 0]) := by rw [ha]; exact putSel_on (e := (1, 126, .agg #[.int .i64 (j : Int), .int .i64 0])) 0 rfl rfl (hon 1 (by kernel_rfl)) rfl
                  replace ha := Aside0.mk ha
                  have HW := Aside0.mk Q_HW
                  refine goes_ Try.func12 (by kernel_rfl) rfl #[.slice A5 cs.length c5, .agg #[.int .i64 (j : Int), .int .i64 0]] (by rfl) rfl rfl (by simp only [List.map_toArray, List.map_cons, List.map_nil, Act.eval, Array.getD_eq_getD_getElem?, Option.getD_some, e125, e126]) ?_
                  refine (HF0.out w' HW.out).mono ?_
                  rintro e w2 ⟨v2, rfl, hR, hB⟩
                  refine ⟨_, rfl, ?_⟩
                  refine hK.out _ _ ⟨b3_, v2, s8_, s9_, s14_, s15_, m3_, (by rw [ha.out]; exact putSel_upk 1 hb_ rfl rfl rfl), below_step HW.out hB, fun _ _ => Kd.R_lower hR HW.out.size, fun h0_ h1_ => Kd.R_below (Q_H3 h0_ h1_) hB, fun h0_ _ => absurd ((hoff 8 (by kernel_rfl)).symm.trans h0_) (by decide), fun h0_ _ => absurd ((hoff 9 (by kernel_rfl)).symm.trans h0_) (by decide), fun h0_ _ => absurd ((hoff 14 (by kernel_rfl)).symm.trans h0_) (by decide), fun h0_ _ => absurd ((hoff 15 (by kernel_rfl)).symm.trans h0_) (by decide), fun _ _ _ => fun hE => absurd (Kd.R_lt (Q_H3 (by assumption) (hoff 9 (by kernel_rfl))) _ rfl) (Nat.not_lt.2 (Kd.R_base hR _ hE.symm)), fun _ h1_ _ => absurd ((hoff 14 (by kernel_rfl)).symm.trans h1_) (by decide), fun _ h1_ _ => absurd ((hoff 9 (by kernel_rfl)).symm.trans h1_) (by decide), Q_X3_⟩
                refine steps_cons ?_ ?_
                · rintro b a w' ⟨b3_, s2_, s8_, s9_, s14_, s15_, m3_, ha, Q_HW, Q_H2, Q_H3, Q_H8, Q_H9, Q_H14, Q_H15, Q_N2, Q_N14, Q_M2, Q_X3_⟩ hb_ hon hoff
                  refine ⟨_, rfl, fun K hK => ?_⟩
                  replace ha := Aside0.mk ha
                  have HW := Aside0.mk Q_HW
                  refine value_ (w1 := w'.alloc (.cells #[] 46)) (v := .slice (some ⟨w'.heap.size, 0, none⟩) 0 0) (by rfl) rfl (by go_simp) ?_
                  refine hK.out _ _ ⟨w'.heap.size, s2_, s8_, s9_, s14_, s15_, (.slice (some ⟨w'.heap.size, 0, none⟩) 0 0), (by rw [ha.out]; exact putSel_upk 2 hb_ rfl rfl rfl), below_alloc HW.out _, fun h0_ h1_ => Kd.R_alloc (Q_H2 h0_ h1_) _, fun _ _ => Kd.R_lower (pown_emptyPr w') HW.out.size, fun h0_ h1_ => Kd.R_alloc (Q_H8 h0_ h1_) _, fun h0_ _ => absurd ((hoff 9 (by kernel_rfl)).symm.trans h0_) (by decide), fun h0_ _ => absurd ((hoff 14 (by kernel_rfl)).symm.trans h0_) (by decide), fun h0_ _ => absurd ((hoff 15 (by kernel_rfl)).symm.trans h0_) (by decide), fun _ _ _ => fun hE => absurd (Kd.R_lt (Q_H2 (by assumption) (hoff 16 (by kernel_rfl))) _ hE.symm) (Nat.lt_irrefl _), fun _ h1_ _ => absurd ((hoff 14 (by kernel_rfl)).symm.trans h1_) (by decide), fun _ h1_ _ => absurd ((hoff 9 (by kernel_rfl)).symm.trans h1_) (by decide), fun _ => rfl⟩
                refine steps_cons ?_ ?_
                · rintro b a w' ⟨b3_, s2_, s8_, s9_, s14_, s15_, m3_, ha, Q_HW, Q_H2, Q_H3, Q_H8, Q_H9, Q_H14, Q_H15, Q_N2, Q_N14, Q_M2, Q_X3_⟩ hb_ hon hoff
                  refine ⟨_, rfl, fun K hK => ?_⟩
                  have e13 : a.tmps[13]? = some (.pointer (some ⟨wr.heap.size, 0, none⟩)) := by rw [ha]; exact (putSel_off rfl).trans rfl
                  replace ha := Aside0.mk ha
                  have HW := Aside0.mk Q_HW
                  have q0 := cells_at HW.out (blk_cell HP.out 0)
                  have q1 := cells_at HW.out (blk_cell HP.out 1)
                  refine value_ (w1 := w') (v := .agg #[.int .i64 (j : Int), .int .i64 0]) (by rfl) rfl ?_ ?_
                  · go_simp
                    (try simp only [i64_w])
                    try rfl
                  refine hK.out _ _ ⟨b3_, s2_, s8_, s9_, s14_, s15_, m3_, (by rw [ha.out]; exact putSel_upk 3 hb_ rfl rfl rfl), Q_HW, Q_H2, Q_H3, fun h0_ _ => absurd ((hoff 8 (by kernel_rfl)).symm.trans h0_) (by decide), fun h0_ _ => absurd ((hoff 9 (by kernel_rfl)).symm.trans h0_) (by decide), fun h0_ _ => absurd ((hoff 14 (by kernel_rfl)).symm.trans h0_) (by decide), fun h0_ _ => absurd ((hoff 15 (by kernel_rfl)).symm.trans h0_) (by decide), Q_N2, fun _ h1_ _ => absurd ((hoff 14 (by kernel_rfl)).symm.trans h1_) (by decide), fun _ h1_ _ => absurd ((hoff 9 (by kernel_rfl)).symm.trans h1_) (by decide), Q_X3_⟩
                refine steps_cons ?_ ?_
                · rintro b a w' ⟨b3_, s2_, s8_, s9_, s14_, s15_, m3_, ha, Q_HW, Q_H2, Q_H3, Q_H8, Q_H9, Q_H14, Q_H15, Q_N2, Q_N14, Q_M2, Q_X3_⟩ hb_ hon hoff
                  refine ⟨_, rfl, fun K hK => ?_⟩
                  have e131 : a.tmps[131]? = some (.slice A5 tk.length c5) := by rw [ha]; exact (putSel_off rfl).trans rfl
                  have e132 : a.tmps[132]? = some (.agg #[.int .i64 (j : Int), .int .i64 0]) := by rw [ha]; exact putSel_on (e := (7, 132, .agg #[.int .i64 (j : Int), .int .i64 0])) 3 rfl rfl (hon 7 (by kernel_rfl)) rfl
                  replace ha := Aside0.mk ha
                  have HW := Aside0.mk Q_HW
                  have H2 := Aside0.mk (Q_H2 (hon 2 (by kernel_rfl)) (hoff 16 (by kernel_rfl)))
                  refine goes_ Try.func12 (by kernel_rfl) rfl #[.slice A5 tk.length c5, .agg #[.int .i64 (j : Int), .int .i64 0]] (by rfl) rfl rfl (by simp only [List.map_toArray, List.map_cons, List.map_nil, Act.eval, Array.getD_eq_getD_getElem?, Option.getD_some, e131, e132]) ?_
                  refine (HF1.out w' HW.out).mono ?_
                  rintro e w2 ⟨v2, rfl, hR, hB⟩
                  refine ⟨_, rfl, ?_⟩
                  refine hK.out _ _ ⟨b3_, s2_, v2, s9_, s14_, s15_, m3_, (by rw [ha.out]; exact putSel_upk 4 hb_ rfl rfl rfl), below_step HW.out hB, fun _ _ => Kd.R_below H2.out hB, fun h0_ h1_ => Kd.R_below (Q_H3 h0_ h1_) hB, fun _ _ => Kd.R_lower hR HW.out.size, fun h0_ _ => absurd ((hoff 9 (by kernel_rfl)).symm.trans h0_) (by decide), fun h0_ _ => absurd ((hoff 14 (by kernel_rfl)).symm.trans h0_) (by decide), fun h0_ _ => absurd ((hoff 15 (by kernel_rfl)).symm.trans h0_) (by decide), Q_N2, fun _ h1_ _ => absurd ((hoff 14 (by kernel_rfl)).symm.trans h1_) (by decide), fun _ h1_ _ => absurd ((hoff 9 (by kernel_rfl)).symm.trans h1_) (by decide), Q_X3_⟩
                refine steps_cons ?_ ?_
                · rintro b a w' ⟨b3_, s2_, s8_, s9_, s14_, s15_, m3_, ha, Q_HW, Q_H2, Q_H3, Q_H8, Q_H9, Q_H14, Q_H15, Q_N2, Q_N14, Q_M2, Q_X3_⟩ hb_ hon hoff
                  refine ⟨_, rfl, fun K hK => ?_⟩
                  have e128 : a.tmps[128]? = some (m3_) := by rw [ha]; exact putSel_on (e := (3, 128, m3_)) 2 rfl rfl (hon 3 (by kernel_rfl)) rfl
                  rw [Q_X3_ (hon 3 (by kernel_rfl))] at e128
                  have e133 : a.tmps[133]? = some (s8_) := by rw [ha]; exact putSel_on (e := (8, 133, s8_)) 4 rfl rfl (hon 8 (by kernel_rfl)) rfl
                  replace ha := Aside0.mk ha
                  have HW := Aside0.mk Q_HW
                  have H2 := Aside0.mk (Q_H2 (hon 2 (by kernel_rfl)) (hoff 16 (by kernel_rfl)))
                  have H3 := Aside0.mk (Q_H3 (hon 3 (by kernel_rfl)) hb_)
                  have H8 := Aside0.mk (Q_H8 (hon 8 (by kernel_rfl)) hb_)
                  have N2 := Aside0.mk (Q_N2 (hon 2 (by kernel_rfl)) (hon 3 (by kernel_rfl)) hb_)
                  obtain ⟨aR, cR, hs, hcR, hCR⟩ := Kd.R_reads H8.out
                  rw [hs] at e133
                  refine cat_step_at kPr flatKM wd w' wd.heap.size (by rfl) (.tmp 128) (.tmp 133) 33 46 (.agg #[.int .i64 0, .int .i64 0]) 16 rfl Try.underlying33 infoPr rfl (by decide) (by omega) (.slice (some ⟨b3_, 0, none⟩) 0 0) ([]) (l1) (aR) (l1.length) (cR) (eval_of e128) (eval_of e133) (H3.out) (hCR) HW.out HW.out.size (by first | omega | (simp; omega)) ?_
                  intro v1 w1 ho hb hg hat
                  rw [List.nil_append] at ho
                  refine hK.out _ _ ⟨b3_, s2_, s8_, v1, s14_, s15_, m3_, (by rw [ha.out]; exact putSel_upk 5 hb_ rfl rfl rfl), hb, fun _ _ => Kd.R_grown1 H2.out rfl hg N2.out, fun _ h1_ => absurd ((up_self b 9).symm.trans h1_) (by decide), fun _ h1_ => absurd ((up_self b 9).symm.trans h1_) (by decide), fun _ _ => ho, fun h0_ _ => absurd ((hoff 14 (by kernel_rfl)).symm.trans h0_) (by decide), fun h0_ _ => absurd ((hoff 15 (by kernel_rfl)).symm.trans h0_) (by decide), fun _ _ h2_ => absurd ((up_self b 9).symm.trans h2_) (by decide), fun _ _ h2_ => absurd ((up_self b 9).symm.trans h2_) (by decide), fun _ _ _ => own_apart hat N2.out (Kd.R_lt H2.out), Q_X3_⟩
                refine steps_cons ?_ ?_
                · rintro b a w' ⟨b3_, s2_, s8_, s9_, s14_, s15_, m3_, ha, Q_HW, Q_H2, Q_H3, Q_H8, Q_H9, Q_H14, Q_H15, Q_N2, Q_N14, Q_M2, Q_X3_⟩ hb_ hon hoff
                  refine ⟨_, rfl, fun K hK => ?_⟩
                  have e13 : a.tmps[13]? = some (.pointer (some ⟨wr.heap.size, 0, none⟩)) := by rw [ha]; exact (putSel_off rfl).trans rfl
                  replace ha := Aside0.mk ha
                  have HW := Aside0.mk Q_HW
                  have q0 := cells_at HW.out (blk_cell HP.out 0)
                  have q1 := cells_at HW.out (blk_cell HP.out 1)
                  refine value_ (w1 := w') (v := .agg #[.int .i64 (j : Int), .int .i64 0]) (by rfl) rfl ?_ ?_
                  · go_simp
                    (try simp only [i64_w])
                    try rfl
                  refine hK.out _ _ ⟨b3_, s2_, s8_, s9_, s14_, s15_, m3_, (by rw [ha.out]; exact putSel_upk 6 hb_ rfl rfl rfl), Q_HW, Q_H2, Q_H3, Q_H8, Q_H9, fun h0_ _ => absurd ((hoff 14 (by kernel_rfl)).symm.trans h0_) (by decide), fun h0_ _ => absurd ((hoff 15 (by kernel_rfl)).symm.trans h0_) (by decide), Q_N2, fun _ h1_ _ => absurd ((hoff 14 (by kernel_rfl)).symm.trans h1_) (by decide), Q_M2, Q_X3_⟩
                refine steps_cons ?_ ?_
                · rintro b a w' ⟨b3_, s2_, s8_, s9_, s14_, s15_, m3_, ha, Q_HW, Q_H2, Q_H3, Q_H8, Q_H9, Q_H14, Q_H15, Q_N2, Q_N14, Q_M2, Q_X3_⟩ hb_ hon hoff
                  refine ⟨_, rfl, fun K hK => ?_⟩
                  have e137 : a.tmps[137]? = some (.slice Ad dr.length cd) := by rw [ha]; exact (putSel_off rfl).trans rfl
                  have e138 : a.tmps[138]? = some (.agg #[.int .i64 (j : Int), .int .i64 0]) := by rw [ha]; exact putSel_on (e := (13, 138, .agg #[.int .i64 (j : Int), .int .i64 0])) 6 rfl rfl (hon 13 (by kernel_rfl)) rfl
                  replace ha := Aside0.mk ha
                  have HW := Aside0.mk Q_HW
                  have H2 := Aside0.mk (Q_H2 (hon 2 (by kernel_rfl)) (hoff 16 (by kernel_rfl)))
                  have H9 := Aside0.mk (Q_H9 (hon 9 (by kernel_rfl)) (hoff 15 (by kernel_rfl)))
                  have M2 := Aside0.mk (Q_M2 (hon 2 (by kernel_rfl)) (hon 9 (by kernel_rfl)) (hoff 15 (by kernel_rfl)))
                  refine goes_ Try.func12 (by kernel_rfl) rfl #[.slice Ad dr.length cd, .agg #[.int .i64 (j : Int), .int .i64 0]] (by rfl) rfl rfl (by simp only [List.map_toArray, List.map_cons, List.map_nil, Act.eval, Array.getD_eq_getD_getElem?, Option.getD_some, e137, e138]) ?_
                  refine (HF2.out w' HW.out).mono ?_
                  rintro e w2 ⟨v2, rfl, hR, hB⟩
                  refine ⟨_, rfl, ?_⟩
                  refine hK.out _ _ ⟨b3_, s2_, s8_, s9_, v2, s15_, m3_, (by rw [ha.out]; exact putSel_upk 7 hb_ rfl rfl rfl), below_step HW.out hB, fun _ _ => Kd.R_below H2.out hB, fun _ h1_ => absurd ((hon 9 (by kernel_rfl)).symm.trans h1_) (by decide), fun _ h1_ => absurd ((hon 9 (by kernel_rfl)).symm.trans h1_) (by decide), fun _ _ => Kd.R_below H9.out hB, fun _ _ => Kd.R_lower hR HW.out.size, fun h0_ _ => absurd ((hoff 15 (by kernel_rfl)).symm.trans h0_) (by decide), fun _ _ h2_ => absurd ((hon 9 (by kernel_rfl)).symm.trans h2_) (by decide), fun _ _ h2_ => absurd ((hon 9 (by kernel_rfl)).symm.trans h2_) (by decide), Q_M2, Q_X3_⟩
                refine steps_cons ?_ ?_
                · rintro b a w' ⟨b3_, s2_, s8_, s9_, s14_, s15_, m3_, ha, Q_HW, Q_H2, Q_H3, Q_H8, Q_H9, Q_H14, Q_H15, Q_N2, Q_N14, Q_M2, Q_X3_⟩ hb_ hon hoff
                  refine ⟨_, rfl, fun K hK => ?_⟩
                  have e134 : a.tmps[134]? = some (s9_) := by rw [ha]; exact putSel_on (e := (9, 134, s9_)) 5 rfl rfl (hon 9 (by kernel_rfl)) rfl
                  have e139 : a.tmps[139]? = some (s14_) := by rw [ha]; exact putSel_on (e := (14, 139, s14_)) 7 rfl rfl (hon 14 (by kernel_rfl)) rfl
                  replace ha := Aside0.mk ha
                  have HW := Aside0.mk Q_HW
                  have H2 := Aside0.mk (Q_H2 (hon 2 (by kernel_rfl)) (hoff 16 (by kernel_rfl)))
                  have H9 := Aside0.mk (Q_H9 (hon 9 (by kernel_rfl)) hb_)
                  have H14 := Aside0.mk (Q_H14 (hon 14 (by kernel_rfl)) hb_)
                  have M2 := Aside0.mk (Q_M2 (hon 2 (by kernel_rfl)) (hon 9 (by kernel_rfl)) hb_)
                  obtain ⟨aR, cR, hs, hcR, hCR⟩ := Kd.R_reads H14.out
                  rw [hs] at e139
                  refine cat_step_at kPr flatKM wd w' wd.heap.size (by rfl) (.tmp 134) (.tmp 139) 33 46 (.agg #[.int .i64 0, .int .i64 0]) 16 rfl Try.underlying33 infoPr rfl (by decide) (by omega) (s9_) (l1) (l2) (aR) (l2.length) (cR) (eval_of e134) (eval_of e139) (H9.out) (hCR) HW.out HW.out.size (by first | omega | (simp; omega)) ?_
                  intro v1 w1 ho hb hg hat
                  refine hK.out _ _ ⟨b3_, s2_, s8_, s9_, s14_, v1, m3_, (by rw [ha.out]; exact putSel_upk 8 hb_ rfl rfl rfl), hb, fun _ _ => Kd.R_grown2 H2.out rfl hg M2.out, fun _ h1_ => absurd ((hon 9 (by kernel_rfl)).symm.trans h1_) (by decide), fun _ h1_ => absurd ((hon 9 (by kernel_rfl)).symm.trans h1_) (by decide), fun _ h1_ => absurd ((up_self b 15).symm.trans h1_) (by decide), fun _ h1_ => absurd ((up_self b 15).symm.trans h1_) (by decide), fun _ _ => ho, fun _ _ h2_ => absurd ((hon 9 (by kernel_rfl)).symm.trans h2_) (by decide), fun _ _ h2_ => absurd ((hon 9 (by kernel_rfl)).symm.trans h2_) (by decide), fun _ _ h2_ => absurd ((up_self b 15).symm.trans h2_) (by decide), Q_X3_⟩
                refine steps_cons ?_ ?_
                · rintro b a w' ⟨b3_, s2_, s8_, s9_, s14_, s15_, m3_, ha, Q_HW, Q_H2, Q_H3, Q_H8, Q_H9, Q_H14, Q_H15, Q_N2, Q_N14, Q_M2, Q_X3_⟩ hb_ hon hoff
                  refine ⟨_, rfl, fun K hK => ?_⟩
                  have e127 : a.tmps[127]? = some (s2_) := by rw [ha]; exact putSel_on (e := (2, 127, s2_)) 1 rfl rfl (hon 2 (by kernel_rfl)) rfl
                  have e140 : a.tmps[140]? = some (s15_) := by rw [ha]; exact putSel_on (e := (15, 140, s15_)) 8 rfl rfl (hon 15 (by kernel_rfl)) rfl
                  replace ha := Aside0.mk ha
                  have HW := Aside0.mk Q_HW
                  have H2 := Aside0.mk (Q_H2 (hon 2 (by kernel_rfl)) hb_)
                  have H15 := Aside0.mk (Q_H15 (hon 15 (by kernel_rfl)) hb_)
                  refine goes_ Try.func13 (by kernel_rfl) rfl #[s2_, s15_] (by rfl) rfl rfl (by simp only [List.map_toArray, List.map_cons, List.map_nil, Act.eval, Array.getD_eq_getD_getElem?, Option.getD_some, e127, e140]) ?_
                  obtain ⟨aR, cR, hs, hcR, hCR⟩ := Kd.R_reads H2.out
                  obtain ⟨aT, cT, ht, hcT, hCT⟩ := Kd.R_reads H15.out
                  rw [← HL.out] at hCT ht
                  have hc := same_pr aR cR l0 aT cT w' hCR hCT
                  rw [← hs, ← ht] at hc
                  refine hc.mono ?_
                  rintro e w2 ⟨he, hD⟩
                  subst he
                  obtain ⟨mD, rfl⟩ := hD
                  refine ⟨_, rfl, ?_⟩
                  refine hK.out _ _ ⟨b3_, s2_, s8_, s9_, s14_, s15_, m3_, (by rw [ha.out]; exact putSel_upk 9 hb_ rfl rfl rfl), pw_below_drewN HW.out mD, fun _ h1_ => absurd ((up_self b 16).symm.trans h1_) (by decide), fun _ h1_ => absurd ((hon 9 (by kernel_rfl)).symm.trans h1_) (by decide), fun _ h1_ => absurd ((hon 9 (by kernel_rfl)).symm.trans h1_) (by decide), fun _ h1_ => absurd ((hon 15 (by kernel_rfl)).symm.trans h1_) (by decide), fun _ h1_ => absurd ((hon 15 (by kernel_rfl)).symm.trans h1_) (by decide), fun _ h1_ => absurd ((up_self b 16).symm.trans h1_) (by decide), fun _ _ h2_ => absurd ((hon 9 (by kernel_rfl)).symm.trans h2_) (by decide), fun _ _ h2_ => absurd ((hon 9 (by kernel_rfl)).symm.trans h2_) (by decide), fun _ _ h2_ => absurd ((hon 15 (by kernel_rfl)).symm.trans h2_) (by decide), Q_X3_⟩
                refine steps_cons ?_ ?_
                · rintro b a w' ⟨b3_, s2_, s8_, s9_, s14_, s15_, m3_, ha, Q_HW, Q_H2, Q_H3, Q_H8, Q_H9, Q_H14, Q_H15, Q_N2, Q_N14, Q_M2, Q_X3_⟩ hb_ hon hoff
                  refine ⟨_, rfl, fun K hK => ?_⟩
                  have e141 : a.tmps[141]? = some (.bool true) := by rw [ha]; exact putSel_on (e := (16, 141, .bool true)) 9 rfl rfl (hon 16 (by kernel_rfl)) rfl
                  replace ha := Aside0.mk ha
                  have HW := Aside0.mk Q_HW
                  refine value_ (w1 := w') (v := .bool false) (by rfl) rfl ?_ ?_
                  · go_simp
                    (try simp only [i64_w])
                    try rfl
                  refine hK.out _ _ ⟨b3_, s2_, s8_, s9_, s14_, s15_, m3_, (by rw [ha.out]; exact putSel_upk 10 hb_ rfl rfl rfl), Q_HW, fun _ h1_ => absurd ((hon 16 (by kernel_rfl)).symm.trans h1_) (by decide), fun _ h1_ => absurd ((hon 9 (by kernel_rfl)).symm.trans h1_) (by decide), fun _ h1_ => absurd ((hon 9 (by kernel_rfl)).symm.trans h1_) (by decide), fun _ h1_ => absurd ((hon 15 (by kernel_rfl)).symm.trans h1_) (by decide), fun _ h1_ => absurd ((hon 15 (by kernel_rfl)).symm.trans h1_) (by decide), fun _ h1_ => absurd ((hon 16 (by kernel_rfl)).symm.trans h1_) (by decide), fun _ _ h2_ => absurd ((hon 9 (by kernel_rfl)).symm.trans h2_) (by decide), fun _ _ h2_ => absurd ((hon 9 (by kernel_rfl)).symm.trans h2_) (by decide), fun _ _ h2_ => absurd ((hon 15 (by kernel_rfl)).symm.trans h2_) (by decide), Q_X3_⟩
                exact steps_nil
              · rintro b a w' hall ⟨b3_, s2_, s8_, s9_, s14_, s15_, m3_, ha, Q_HW, Q_H2, Q_H3, Q_H8, Q_H9, Q_H14, Q_H15, Q_N2, Q_N14, Q_M2, Q_X3_⟩
                clear HW
                have hb1_ := hall 1 (by kernel_rfl)
                have hb2_ := hall 2 (by kernel_rfl)
                have hb3_ := hall 3 (by kernel_rfl)
                have hb7_ := hall 7 (by kernel_rfl)
                have hb8_ := hall 8 (by kernel_rfl)
                have hb9_ := hall 9 (by kernel_rfl)
                have hb13_ := hall 13 (by kernel_rfl)
                have hb14_ := hall 14 (by kernel_rfl)
                have hb15_ := hall 15 (by kernel_rfl)
                have hb16_ := hall 16 (by kernel_rfl)
                have hb17_ := hall 17 (by kernel_rfl)
                subst ha
                obtain rfl := Q_X3_ hb3_
                simp only [putSel, hb1_, hb2_, hb3_, hb7_, hb8_, hb9_, hb13_, hb14_, hb15_, hb16_, hb17_, if_true, Act.put, List.setIfInBounds_toArray, List.set_cons_zero, List.set_cons_succ]
                have HW := Aside0.mk Q_HW
                clear Q_HW
                clear Q_H2
                clear Q_H3
                clear Q_H8
                clear Q_H9
                clear Q_H14
                clear Q_H15
                clear Q_N2
                clear Q_N14
                clear Q_M2
                clear hall hb1_ hb2_ hb3_ hb7_ hb8_ hb9_ hb13_ hb14_ hb15_ hb16_ hb17_
                go_wp2
                go_meet
                case rel => exact ⟨rfl, HW⟩
            case rest =>
              obtain ⟨rfl, HW2⟩ := hcut
              replace HP := Aside0.mk (blk_below HP.out HW2.out)
              replace HW := Aside0.mk (below_step HWa.out HW2.out)
              clear HW2 HWa HF0 HF1 HF2
              have p0 := blk_cell HP.out 0
              have p1 := blk_cell HP.out 1
              go_wp2_with (first | (go_at_call 12; refine (HQ1.out _ HW.out).mono ?_; rintro e w1 ⟨aR, cR, rfl, hB⟩; replace HW := Aside0.mk (below_step HW.out hB); clear hB) | (go_at_call 14; refine (HQ2.out _ HW.out).mono ?_; rintro e w1 ⟨aT, cT, rfl, hB⟩; replace HW := Aside0.mk (below_step HW.out hB); clear hB))
              go_roundw
              case rel => exact ⟨j + 1, n1 + q1, n2 + q2, by omega, hn3, hn4, by go_num, by go_num, by go_num, ⟨HS1n.out⟩, ⟨HS2n.out⟩, HW⟩
              case measure => simp [intOf]; omega
          · obtain rfl : j = 4 := by omega
            have hn1 : n1 = cs.length := by rw [← HS1.out, HAC.out]
            have hn2 : n2 = ds.length := by rw [← HS2.out, HAD.out]
            subst hn1 hn2
            have HW := HW1
            clear HW1 HS1 HS2 HAC HAD HSC HSD HU1 HU2 HF
            cases b1 <;> cases b2
            all_goals
              go_wp2_with (first | (go_at_call 9; (first | (with_reducible refine (HN1.out _ HW.out).mono ?_) | (with_reducible refine (HG1.out _ HW.out).mono ?_) | (with_reducible refine (HZ1.out _ HW.out).mono ?_)); rintro e w1 ⟨rfl, hB⟩; replace HW := Aside0.mk (below_step HW.out hB); clear hB) | (go_at_call 8; (first | (with_reducible refine (HN2.out _ HW.out).mono ?_) | (with_reducible refine (HG2.out _ HW.out).mono ?_) | (with_reducible refine (HZ2.out _ HW.out).mono ?_)); rintro e w1 ⟨rfl, hB⟩; replace HW := Aside0.mk (below_step HW.out hB); clear hB) | (go_at_call 7; refine (HZ3.out _ HW.out).mono ?_; rintro e w1 ⟨rfl, hB⟩; replace HW := Aside0.mk (below_step HW.out hB); clear hB) | (go_at_call 3; refine (runs_calls _).mono ?_; rintro e w1 ⟨rfl, hB⟩; replace HW := Aside0.mk (below_step HW.out hB); clear hB))
              go_ret
              exact ⟨rfl, below_step HB.out HW.out⟩
theorem parts_row (a : Option Addr) (len cap : Nat) (zs : List Int) (x : Int) (w : World) (h : (a = none ∧ len = 0 ∧ cap = 0 ∧ zs = []) ∨ ∃ x, a = some x ∧ len ≤ cap ∧ cap ≤ maxLen ∧ zs.length = cap ∧ (∀ i, i < zs.length → w.cell? (x.add i) = some (.int .i64 (zs.getD i 0))) ∧ ∀ n ∈ zs, (Lit.int .i64 n).wf = true) (hy : len * 8 ≤ 140737488351232) (hx : (Lit.int .i64 x).wf = true) :
    Calls Try.prog 6 #[.slice a len cap, .int .i64 x] w fun e w' => e = .returned (.bool true) ∧ Below w.heap.size w w' := by
  obtain ⟨l, rfl, hr, hm, hw, hc⟩ := ReadsInt.ofRowC h
  exact parts_calls a cap l x w (Kd.C_of_reads (d := (0 : Int)) (h1 := fun _ => rfl) hr)
end Go.Proofs.Ytcbaclmijdoenaa.Lg

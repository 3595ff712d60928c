/-
  LogMore: a crossing more that is there already isn't once; one the other way isn't one way; a delivery more of the same isn't single.
-/
import Derived.Test.YtcbaclmijdoenaaLogTrees
namespace Go.Proofs.Ytcbaclmijdoenaa.Lg
open Go.RowKit Go.ChangeShapes Go.Proofs.YtcbaclmijdoenaaW.PrintWords Go.Proofs.YtcbaclmijdoenaaW.PrintLast Go.Proofs.YtcbaclmijdoenaaW.PrintMore
set_option linter.unusedVariables false
set_option linter.unusedSimpArgs false

theorem infoDl : (Try.prog.info? 39).map (fun i => (i.zero, i.size, i.bytes)) = some (some (.agg #[.int .i64 0, .int .i64 0, .int .i64 0, .slice none 0 0]), 4, 48) := by kernel_rfl
theorem i64_ok (n : Int) (h : -9223372036854775808 ≤ n ∧ n ≤ 9223372036854775807) : InI64 n := inI64 h.1 h.2
/-- A way along: from j to j + 1. -/
def Mo (cs : List Cr) : Prop := ∀ (j : Nat) (x : Cr), cs[j]? = some x → x.1 = (j : Int) ∧ x.2.1 = (j : Int) + 1 ∧ x.2.2.2 = 0 ∧ InI64 x.2.2.1
def Md (ds : List Dl) : Prop := ∀ (j : Nat) (y : Dl), ds[j]? = some y → y.1 = (j : Int) ∧ InI64 y.2.1 ∧ InI64 y.2.2.1
theorem mo_nil : Mo [] := fun j x h => by simp at h
theorem md_nil : Md [] := fun j x h => by simp at h
theorem snoc_get {α : Type} {xs : List α} {x y : α} {j : Nat} (h : (xs ++ [x])[j]? = some y) : xs[j]? = some y ∨ (j = xs.length ∧ y = x) := by
  by_cases hl : j < xs.length
  · rw [List.getElem?_append_left hl] at h
    exact .inl h
  · right
    rw [List.getElem?_append_right (by omega)] at h
    have h1 := (List.getElem?_eq_some_iff.1 h).1
    simp at h1
    have h2 : j - xs.length = 0 := by omega
    rw [h2] at h
    simp at h
    exact ⟨by omega, h.symm⟩
theorem mo_snoc {cs : List Cr} (h : Mo cs) {c : Int} (hc : InI64 c) : Mo (cs ++ [((cs.length : Int), (cs.length : Int) + 1, c, 0)]) := by
  intro j x hj
  rcases snoc_get hj with hj | ⟨rfl, rfl⟩
  · exact h j x hj
  · exact ⟨rfl, rfl, rfl, hc⟩
theorem md_snoc {ds : List Dl} (h : Md ds) {c : Int} (hc : InI64 c) : Md (ds ++ [((ds.length : Int), c, 0, none, 0, 0)]) := by
  intro j x hj
  rcases snoc_get hj with hj | ⟨rfl, rfl⟩
  · exact h j x hj
  · exact ⟨rfl, hc, by show InI64 0; exact inI64 (by omega) (by omega)⟩
theorem mem_get {α : Type} {xs : List α} {x : α} (h : x ∈ xs) : ∃ j : Nat, xs[j]? = some x := by
  obtain ⟨j, hj, he⟩ := List.getElem_of_mem h
  exact ⟨j, by rw [List.getElem?_eq_getElem hj, he]⟩
theorem mo_ok {cs : List Cr} (h : Mo cs) (hk : cs.length ≤ 1000) : ∀ x ∈ cs, CrOk x := by
  intro x hx
  obtain ⟨j, hj⟩ := mem_get hx
  have hl := (List.getElem?_eq_some_iff.1 hj).1
  obtain ⟨h1, h2, h3, h4⟩ := h j x hj
  exact ⟨by rw [h1]; exact inI64 (by omega) (by omega), by rw [h2]; exact inI64 (by omega) (by omega), h4, by rw [h3]; exact inI64 (by omega) (by omega)⟩
theorem md_ok {ds : List Dl} (h : Md ds) (hk : ds.length ≤ 1000) : ∀ x ∈ ds, GtOk (gt x) := by
  intro x hx
  obtain ⟨j, hj⟩ := mem_get hx
  have hl := (List.getElem?_eq_some_iff.1 hj).1
  obtain ⟨h1, h2, h3⟩ := h j x hj
  exact ⟨by show InI64 x.1; rw [h1]; exact inI64 (by omega) (by omega), h2, h3⟩
theorem mo_nodup {cs : List Cr} (h : Mo cs) : cs.Nodup := by
  unfold List.Nodup
  rw [List.pairwise_iff_getElem]
  intro i j hi hj hij he
  have h1 := (h i _ (List.getElem?_eq_getElem hi)).1
  have h2 := (h j _ (List.getElem?_eq_getElem hj)).1
  rw [he] at h1
  omega
theorem md_nodup {ds : List Dl} (h : Md ds) : (ds.map gt).Nodup := by
  unfold List.Nodup
  rw [List.pairwise_iff_getElem]
  intro i j hi hj hij he
  simp only [List.length_map] at hi hj
  simp only [List.getElem_map, gt, Prod.mk.injEq] at he
  have h1 := (h i _ (List.getElem?_eq_getElem hi)).1
  have h2 := (h j _ (List.getElem?_eq_getElem hj)).1
  omega
theorem mo_oneway {cs : List Cr} (h : Mo cs) : OneWay cs := by
  intro x hx hy
  obtain ⟨i, hi⟩ := mem_get hx
  obtain ⟨j, hj⟩ := mem_get hy
  have h1 := h i x hi
  have h2 := h j (rev x) hj
  simp only [rev] at h2
  omega
theorem mo_twice {cs : List Cr} {i : Nat} {x : Cr} (hi : cs[i]? = some x) : decide (cs ++ [x]).Nodup = false := by
  rw [decide_eq_false_iff_not]
  intro hn
  rw [List.nodup_append] at hn
  exact hn.2.2 x (List.mem_of_getElem? hi) x (by simp) rfl
theorem mo_back {cs : List Cr} {i : Nat} {x : Cr} (h : Mo cs) (hi : cs[i]? = some x) : decide (cs ++ [rev x]).Nodup = true := by
  rw [decide_eq_true_iff, List.nodup_append]
  refine ⟨mo_nodup h, by simp, fun y hy z hz => ?_⟩
  simp only [List.mem_singleton] at hz
  subst hz
  intro e
  subst e
  exact mo_oneway h x (List.mem_of_getElem? hi) hy
theorem mo_both {cs : List Cr} {i : Nat} {x : Cr} (hi : cs[i]? = some x) : decide (OneWay (rev x :: cs)) = false := by
  rw [decide_eq_false_iff_not]
  intro hn
  refine hn (rev x) (by simp) ?_
  rw [rev_rev]
  exact List.mem_cons_of_mem _ (List.mem_of_getElem? hi)
theorem mo_other {cs : List Cr} {i : Nat} {x : Cr} (h : Mo cs) (hi : cs[i]? = some x) : decide (OneWay ((x.2.1, x.1, x.2.2.1, 9) :: cs)) = true := by
  rw [decide_eq_true_iff]
  have hx := h i x hi
  intro y hy hr
  rcases List.mem_cons.1 hy with rfl | hy
  · rcases List.mem_cons.1 hr with hr | hr
    · simp only [rev, Prod.mk.injEq] at hr
      omega
    · obtain ⟨j, hj⟩ := mem_get hr
      have h2 := h j _ hj
      simp [rev] at h2
  · rcases List.mem_cons.1 hr with hr | hr
    · obtain ⟨j, hj⟩ := mem_get hy
      have h2 := h j _ hj
      simp only [rev, Prod.mk.injEq] at hr
      omega
    · exact mo_oneway h y hy hr
theorem md_twice {ds : List Dl} {i : Nat} {y z : Dl} (hi : ds[i]? = some y) (hz : gt z = gt y) : decide ((z :: ds).map gt).Nodup = false := by
  rw [decide_eq_false_iff_not]
  intro hn
  rw [List.map_cons, List.nodup_cons] at hn
  apply hn.1
  rw [hz]
  exact List.mem_map_of_mem (List.mem_of_getElem? hi)
theorem dl_cr : ∀ q, q ∈ 39 :: kDl.E → q ≠ 25 := by
  intro q hq
  have hq1 : q ∈ [39] := hq
  simp at hq1
  omega
theorem cr_dl : ∀ q, q ∈ 25 :: kCr.E → q ≠ 39 := by
  intro q hq
  have hq1 : q ∈ [25] := hq
  simp at hq1
  omega

/-- Four values stored into the block g. -/
def setv4 (w : World) (g : Nat) (a b c d : Value) : World := (((w.setCell ⟨g, 0, none⟩ a).setCell ⟨g, 1, none⟩ b).setCell ⟨g, 2, none⟩ c).setCell ⟨g, 3, none⟩ d
theorem blkv4 {w : World} {g : Nat} {t : TypeId} {x y z u a b c d : Value} (h : w.heap[g]? = some (.cells #[x, y, z, u] t (0, 0))) : (setv4 w g a b c d).heap[g]? = some (.cells #[a, b, c, d] t (0, 0)) := by
  unfold setv4
  exact blk_set (blk_set (blk_set (blk_set h 0 _) 1 _) 2 _) 3 _
theorem farv4 {w : World} {g g' : Nat} {t : TypeId} {cs : Array Value} {a b c d : Value} (h : w.heap[g]? = some (.cells cs t (0, 0))) (hne : g ≠ g') : (setv4 w g' a b c d).heap[g]? = some (.cells cs t (0, 0)) := by
  unfold setv4
  exact blk_far (p := ⟨g', 3, none⟩) (blk_far (p := ⟨g', 2, none⟩) (blk_far (p := ⟨g', 1, none⟩) (blk_far (p := ⟨g', 0, none⟩) h hne _) hne _) hne _) hne _
theorem belowv4 {w w' : World} {g : Nat} {a b c d : Value} (h : Below w.heap.size w w') (hg : w.heap.size ≤ g) : Below w.heap.size w (setv4 w' g a b c d) := by
  unfold setv4
  exact below_set (below_set (below_set (below_set h hg) hg) hg) hg
theorem own_flat1 {α : Type} {n : Nat} {enc : α → List Value} {hl : ∀ x, (enc x).length = n} {h1 : ∀ x u, u ∈ enc x → u.oneCell' = true} (x : α) (w : World) (e : TypeId) : Kd.R (flat n enc hl h1) e (w.alloc (.cells (enc x).toArray e)) w.heap.size (fun _ => True) (.slice (some ⟨w.heap.size, 0, none⟩) 1 1) [x] :=
  ⟨fun _ _ => trivial, enc x, by
    show World.ownsRow _ _ _ n _ _ _
    have := World.ownsRow_lit (base := w.heap.size) (e := e) (size := n) w (enc x).toArray 1 (Nat.le_refl _) (by simp [maxLen]) (by simp [hl])
    simpa using this, by
    have := Reps.snoc (R := fun (x : α) (cs : List Value) => cs = enc x) (Reps.none _ n) (p := x) (c := enc x) rfl (hl x)
    exact this⟩
def lmReg.T13 : Bool × List (List Nat × List Nat) := (true, [([], []), ([], []), ([0, 1], [0, 1]), ([2], [2]), ([], []), ([], []), ([4, 5], [4, 5]), ([6], [6]), ([], []), ([], []), ([8, 3, 0, 1, 2, 3, 8, 9], [3, 8]), ([9, 7, 10, 0, 1, 2, 3, 4, 5, 6, 7, 8, 9, 10], [7, 9])])
def lmReg.B13 : List Nat := [0, 0, 3, 7, 0, 0, 48, 112, 0, 0, 783, 2047]
theorem lmReg.tab13 : rtab .any (opsOf Try.f5 13) = lmReg.T13 := by kernel_rfl
theorem lmReg.bits13 : waitsOk lmReg.T13.2 lmReg.B13 = true := by kernel_rfl
def lmReg.T18 : Bool × List (List Nat × List Nat) := (true, [([], []), ([], []), ([0, 1], [0, 1]), ([], []), ([3], [3]), ([2, 4, 2], [2, 4]), ([5, 5], [5]), ([6], [6]), ([7, 6], [7]), ([8], [8]), ([8], [8]), ([9, 10, 8, 8], [8, 9, 10]), ([8], [8]), ([12, 8], [8, 12]), ([11, 13, 11, 8], [8, 11, 13]), ([14, 14, 8], [8, 14]), ([8, 15], [8, 15]), ([16, 15], [16]), ([17], [17]), ([18, 17], [17, 18]), ([17], [17]), ([19, 20, 17, 17], [17, 19, 20]), ([21, 21, 17], [17, 21]), ([22, 17], [17, 22]), ([17, 23], [17, 23]), ([24, 22], [24]), ([25], [25]), ([26, 25], [25, 26]), ([25], [25]), ([27, 28, 25, 25], [25, 27, 28]), ([29, 29, 25], [25, 29]), ([25, 30], [25, 30]), ([31, 30], [31]), ([32], [32]), ([33, 32], [32, 33]), ([32], [32]), ([34, 35, 32, 32], [32, 34, 35]), ([36, 36, 32], [32, 36]), ([37, 32], [32, 37]), ([32, 38], [32, 38]), ([39, 37], [39]), ([40, 40], [40]), ([40, 41], [40, 41]), ([42, 41, 0, 1, 2, 3, 4, 5, 6, 7, 8, 9, 10, 11, 12, 13, 14, 15, 16, 17, 18, 19, 20, 21, 22, 23, 24, 25, 26, 27, 28, 29, 30, 31, 32, 33, 34, 35, 36, 37, 38, 39, 40, 41, 42], [42])])
def lmReg.B18 : List Nat := [0, 0, 3, 0, 8, 31, 63, 127, 255, 511, 511, 2047, 511, 4607, 16383, 32767, 65535, 131071, 262143, 524287, 262143, 2097151, 4194303, 8388607, 16777215, 33554431, 67108863, 134217727, 67108863, 536870911, 1073741823, 2147483647, 4294967295, 8589934591, 17179869183, 8589934591, 68719476735, 137438953471, 274877906943, 549755813887, 1099511627775, 2199023255551, 4398046511103, 8796093022207]
theorem lmReg.tab18 : rtab .any (opsOf Try.f5 18) = lmReg.T18 := by kernel_rfl
theorem lmReg.bits18 : waitsOk lmReg.T18.2 lmReg.B18 = true := by kernel_rfl

set_option maxRecDepth 100000 in
set_option maxHeartbeats 4000000 in
theorem more_calls (A0 : Option Addr) (c0 : Nat) (l : List Int) (at_ : Int) (w : World) (hr : Kd.C (Kd.int .i64) w A0 l.length l) :
    Calls Try.prog 5 #[.slice A0 l.length c0, .int .i64 at_] w fun e w' => e = .returned (.bool true) ∧ Below w.heap.size w w' := by
  have HR := Aside0.mk hr
  clear hr
  go_enter Try.func5, Try.ntmps5
  go_upto_block 0 with fail
  go_cut [5, 6, 7] (fun v u i wx => ∃ (cs : List Cr) (ds : List Dl), cs.length ≤ 10 ∧ ds.length = cs.length ∧ Aside0 (Mo cs) ∧ Aside0 (Md ds) ∧ Aside0 (Kd.R kCr 25 wx w.heap.size (fun _ => True) v cs) ∧ Aside0 (Kd.R kDl 39 wx w.heap.size (fun _ => True) u ds) ∧ Aside0 (Below w.heap.size w wx))
  case first =>
    go_wp2_with fail
    go_loopw [5, 6, 7] (fun v u i wr => ∃ (k : Nat) (cs : List Cr) (ds : List Dl), k ≤ 10 ∧ i = .int .i64 k ∧ cs.length = k ∧ ds.length = k ∧ Aside0 (Mo cs) ∧ Aside0 (Md ds) ∧ Aside0 (Kd.R kCr 25 wr w.heap.size (fun _ => True) v cs) ∧ Aside0 (Kd.R kDl 39 wr w.heap.size (fun _ => True) u ds) ∧ Aside0 (Below w.heap.size w wr)) (fun _ _ i _ => 10 - (intOf i).toNat)
    case atStart => exact ⟨0, [], [], by omega, rfl, rfl, rfl, ⟨mo_nil⟩, ⟨md_nil⟩, ⟨Kd.R_nil _ _ _ _ _⟩, ⟨Kd.R_nil _ _ _ _ _⟩, ⟨Below.refl _ _⟩⟩
    case round =>
      obtain ⟨k, cs, ds, hk, rfl, hlc, hld, HM, HD, HC, HE, HB⟩ := hrel
      by_cases hl : k < l.length
      · by_cases hlt : k < 10
        · obtain ⟨ad0, rfl, hc0⟩ := nums_at HR.out k hl
          generalize l.getD k 0 = n at hc0
          have HC0 := Aside0.mk hc0
          have HBT : Aside0 (InI64 (bits .and .i64 n 3)) := ⟨wf_bits _ _ _ _⟩
          replace hc0 := cells_at HB.out hc0
          have HLC := Lib.hid hlc
          have HLD := Lib.hid hld
          clear hlc hld
          go_wp2_with (first | ((with_reducible refine gate_builtin (b := .append) (xs := #[.tmp 23, .tmp 34]) rfl ?_); at_builtin; refine Kd.R_append (kCr) (w0 := w) (w.heap.size) rfl (.tmp 23) (.tmp 34) 27 25 (.agg #[.int .i64 0, .int .i64 0, .int .i64 0, .int .i64 0]) 32 rfl Try.underlying27 infoCr rfl (by decide) (by omega) (u5) (cs) (((k : Int), (k : Int) + 1, bits .and .i64 n 3, 0)) [.int .i64 k, .int .i64 ((k : Int) + 1), .int .i64 (bits .and .i64 n 3), .int .i64 0] (fun _ => True) (fun _ => False) rfl ?aX ?aP (fun _ hk => hk.elim) ?aF ?aO ?aB ?aS ?aL ?_; (case aX => first | rfl | (simp [Act.eval]; done)); (case aP => exact rfl); (case aB => exact (by repeat (with_reducible first | exact HB.out | apply below_alloc | apply pw_below_drewN | apply below_drew1))); (case aF => exact (fun _ _ => trivial)); (case aO => exact (by (with_reducible repeat (first | apply Kd.R_alloc | apply Kd.R_drewN | apply Kd.R_drew)); exact HC.out)); (case aS => exact (below_size (by repeat (with_reducible first | exact HB.out | apply below_alloc | apply pw_below_drewN | apply below_drew1)))); (case aL => have := HLC.out; omega); intro v1 w1 ho hb hg hat; have HC1 := Aside0.mk ho; have HB1 := Aside0.mk hb; have HE1 := Aside0.mk (Kd.R_over HE.out HC.out dl_cr hg); have hc1 := cells_at hb HC0.out; clear ho hb hg hat hc0) | ((with_reducible refine gate_builtin (b := .append) (xs := #[.tmp 36, .tmp 45]) rfl ?_); at_builtin; refine Kd.R_append (kDl) (w0 := w) (w.heap.size) rfl (.tmp 36) (.tmp 45) 36 39 (.agg #[.int .i64 0, .int .i64 0, .int .i64 0, .slice none 0 0]) 48 rfl Try.underlying36 infoDl rfl (by decide) (by omega) (u6) (ds) (((k : Int), bits .and .i64 n 3, 0, none, 0, 0)) [.int .i64 k, .int .i64 (bits .and .i64 n 3), .int .i64 0, .slice none 0 0] (fun _ => True) (fun _ => False) rfl ?aX ?aP (fun _ hk => hk.elim) ?aF ?aO ?aB ?aS ?aL ?_; (case aX => first | rfl | (simp [Act.eval]; done)); (case aP => exact rfl); (case aB => exact (by repeat (with_reducible first | exact HB1.out | apply below_alloc | apply pw_below_drewN | apply below_drew1))); (case aF => exact (fun _ _ => trivial)); (case aO => exact (by (with_reducible repeat (first | apply Kd.R_alloc | apply Kd.R_drewN | apply Kd.R_drew)); exact HE1.out)); (case aS => exact (below_size (by repeat (with_reducible first | exact HB1.out | apply below_alloc | apply pw_below_drewN | apply below_drew1)))); (case aL => have := HLD.out; omega); intro v1 w1 ho hb hg hat; have HE2 := Aside0.mk ho; have HB2 := Aside0.mk hb; have HC2 := Aside0.mk (Kd.R_over HC1.out HE1.out cr_dl hg); clear ho hb hg hat))
          go_roundw
          case rel => exact ⟨k + 1, cs ++ [((k : Int), (k : Int) + 1, bits .and .i64 n 3, 0)], ds ++ [((k : Int), bits .and .i64 n 3, 0, none, 0, 0)], by omega, by go_num, by simp [HLC.out], by simp [HLD.out], ⟨by have := mo_snoc HM.out HBT.out; rwa [HLC.out] at this⟩, ⟨by have := md_snoc HD.out HBT.out; rwa [HLD.out] at this⟩, HC2, HE2, HB2⟩
          case measure => simp [intOf]; omega
        · go_wp2_with fail
          go_meet
          case rel => exact ⟨cs, ds, by omega, by omega, HM, HD, HC, HE, HB⟩
      · go_wp2_with fail
        go_meet
        case rel => exact ⟨cs, ds, by omega, by omega, HM, HD, HC, HE, HB⟩
  case rest =>
    obtain ⟨cs, ds, hcl, hdl, HM, HD, HC, HE, HB⟩ := hcut
    obtain ⟨A5, c5, rfl, hc5, hC5⟩ := Kd.R_reads HC.out
    obtain ⟨A6, c6, rfl, hc6, hC6⟩ := Kd.R_reads HE.out
    have HC5 := Aside0.mk hC5
    have HC6 := Aside0.mk hC6
    have HOKc := Aside0.mk (mo_ok HM.out (by omega))
    have HOKd := Aside0.mk (md_ok HD.out (by omega))
    have HV1 : Hid (decide cs.Nodup = true) := Lib.hid (decide_eq_true (mo_nodup HM.out))
    have HV2 : Hid (decide (OneWay cs) = true) := Lib.hid (decide_eq_true (mo_oneway HM.out))
    have HV3 : Hid (decide (ds.map gt).Nodup = true) := Lib.hid (decide_eq_true (md_nodup HD.out))
    have HDL := Lib.hid hdl
    have hdl2 : ds.length ≤ 10 := by omega
    clear hC5 hC6 hc5 hc6 HC HE HR hdl
    go_upto_region 8 with fail
    go_cut [59] (fun v wx => v = .bool false ∧ Aside0 (Below wc.heap.size wc wx))
    case first =>
      go_wp2_with (first | (go_at_call 10; refine (single_calls A6 c6 ds w2 (Kd.C_below HC6.out HB2.out) HOKd.out (by omega)).mono ?_; rintro e w3 ⟨he, hB⟩; rw [HV3.out] at he; subst he; have HB3 := Aside0.mk (below_step HB2.out hB); clear hB) | (go_at_call 8; refine (oneway_calls A5 c5 cs w1 (Kd.C_below HC5.out HB1.out) HOKc.out (by omega)).mono ?_; rintro e w2 ⟨he, hB⟩; rw [HV2.out] at he; subst he; have HB2 := Aside0.mk (below_step HB1.out hB); clear hB) | (go_at_call 9; refine (once_calls A5 c5 cs wc HC5.out HOKc.out (by omega)).mono ?_; rintro e w1 ⟨he, hB⟩; rw [HV1.out] at he; subst he; have HB1 := Aside0.mk hB; clear hB))
      go_meet
      case rel => exact ⟨rfl, HB3⟩
    case rest =>
      obtain ⟨rfl, HW2⟩ := hcut
      replace HC5 := Aside0.mk (Kd.C_below HC5.out HW2.out)
      replace HC6 := Aside0.mk (Kd.C_below HC6.out HW2.out)
      replace HB := Aside0.mk (below_step HB.out HW2.out)
      clear HW2 HV1 HV2 HV3
      by_cases h0 : cs.length = 0
      · go_wp2_with (first | (go_at_call 3; refine (runs_calls wc).mono ?_; rintro e w2 ⟨rfl, hB⟩; have HBz := Aside0.mk (below_step HB.out hB); clear hB))
        go_ret
        exact ⟨rfl, HBz.out⟩
      · obtain ⟨d, hd, HWI⟩ : ∃ d : Nat, d < cs.length ∧ Aside0 (∀ W, Calls Try.prog 11 #[.int .i64 at_, .int .i64 0, .int .i64 ((cs.length : Int) - 1)] W fun e w' => e = .returned (.int .i64 (d : Int)) ∧ W = w') := by
          have h1 := within_bd at_ 0 ((cs.length : Int) - 1) (by omega)
          refine ⟨(within at_ 0 ((cs.length : Int) - 1)).toNat, by omega, ⟨fun W => ?_⟩⟩
          have h2 := within_calls at_ 0 ((cs.length : Int) - 1) W (by omega) (by omega) (by omega)
          rwa [show (((within at_ 0 ((cs.length : Int) - 1)).toNat : Nat) : Int) = within at_ 0 ((cs.length : Int) - 1) by omega]
        obtain ⟨ad5, x, rfl, hx, d0, d1, d2, d3⟩ := at_Cr HC5.out d hd
        obtain ⟨ad6, y, rfl, hy, e0, e1, e2, e3⟩ := at_Dl HC6.out d (by have := HDL.out; omega)
        obtain ⟨xf, xt, xc, xs⟩ := x
        obtain ⟨yc, yp, ys, yA, yn, ym⟩ := y
        simp only at d0 d1 d2 d3 e0 e1 e2 e3
        have HX0 := Aside0.mk d0
        have HX1 := Aside0.mk d1
        have HX2 := Aside0.mk d2
        have HX3 := Aside0.mk d3
        have HY0 := Aside0.mk e0
        have HY1 := Aside0.mk e1
        have HY2 := Aside0.mk e2
        have HY3 := Aside0.mk e3
        have hd6 : d < ds.length := by have := HDL.out; omega
        have HX := Aside0.mk hx
        have HY := Aside0.mk hy
        have HW := Aside0.mk (Below.refl wc.heap.size wc)
        clear d0 d1 d2 d3 e0 e1 e2 e3 hx hy
        go_upto_region 13 with (first | (go_at_call 11; refine (HWI.out _).mono ?_; rintro e w1 ⟨rfl, rfl⟩))
        go_cut [9, 10] (fun v u wx => ∃ P9 P10 : Nat, v = .pointer (some ⟨P9, 0, none⟩) ∧ u = .pointer (some ⟨P10, 0, none⟩) ∧ P9 ≠ P10 ∧ wc.heap.size ≤ P9 ∧ wc.heap.size ≤ P10 ∧ Aside0 (wx.heap[P9]? = some (.cells #[.int .i64 xf, .int .i64 xt, .int .i64 xc, .int .i64 xs] 25 (0, 0))) ∧ Aside0 (wx.heap[P10]? = some (.cells #[.int .i64 yc, .int .i64 yp, .int .i64 ys, .slice yA yn ym] 39 (0, 0))) ∧ Aside0 (Below wc.heap.size wc wx))
        case first =>
          refine start_ (n := 12) (S := fun w' => True) (ds := []) #[false, false, false, false, false, false, false, false, false, false, false, false] (by kernel_rfl) rfl rfl trivial (fun hHeld => ?_)
          refine with_tabW lmReg.tab13 lmReg.bits13 (fun HT_ HW_ => ?_)
          refine pure_ (i := 0) (N := some 69) (v := ?_) (a' := ?_) #[true, false, false, false, false, false, false, false, false, false, false, false] rfl rfl (any_of HT_.out (by kernel_rfl)) (fun _ _ _ h => h) (Or.inl ⟨by rfl, ?_⟩) ?_ ?_
          rotate_left
          · intro w'
            go_simp
            with_reducible rfl
          rotate_left
          · simp only [Act.put, List.setIfInBounds_toArray, List.set_cons_zero, List.set_cons_succ, i64_w, i32_w]
            rfl
          refine pure_ (i := 1) (N := some 70) (v := ?_) (a' := ?_) #[true, true, false, false, false, false, false, false, false, false, false, false] rfl rfl (any_of HT_.out (by kernel_rfl)) (fun _ _ _ h => h) (Or.inl ⟨by rfl, ?_⟩) ?_ ?_
          rotate_left
          · intro w'
            go_simp
            with_reducible rfl
          rotate_left
          · simp only [Act.put, List.setIfInBounds_toArray, List.set_cons_zero, List.set_cons_succ, i64_w, i32_w]
            rfl
          refine pure_ (i := 4) (N := some 73) (v := ?_) (a' := ?_) #[true, true, false, false, true, false, false, false, false, false, false, false] rfl rfl (any_of HT_.out (by kernel_rfl)) (fun _ _ _ h => h) (Or.inl ⟨by rfl, ?_⟩) ?_ ?_
          rotate_left
          · intro w'
            go_simp
            with_reducible rfl
          rotate_left
          · simp only [Act.put, List.setIfInBounds_toArray, List.set_cons_zero, List.set_cons_succ, i64_w, i32_w]
            rfl
          refine pure_ (i := 5) (N := some 74) (v := ?_) (a' := ?_) #[true, true, false, false, true, true, false, false, false, false, false, false] rfl rfl (any_of HT_.out (by kernel_rfl)) (fun _ _ _ h => h) (Or.inl ⟨by rfl, ?_⟩) ?_ ?_
          rotate_left
          · intro w'
            go_simp
            with_reducible rfl
          rotate_left
          · simp only [Act.put, List.setIfInBounds_toArray, List.set_cons_zero, List.set_cons_succ, i64_w, i32_w]
            rfl
          refine inv_at [2, 3, 6, 7, 8, 9, 10, 11] (fun a0_ b a w' => ∃ (p0_ : Nat) (p1_ : Nat) (m8_ : Value) (m9_ : Value), a = putSel a0_ b [(2, 71, .pointer (some (ad5.add (d * 4)))), (3, 72, .agg #[.int .i64 xf, .int .i64 xt, .int .i64 xc, .int .i64 xs]), (6, 75, .pointer (some (ad6.add (d * 4)))), (7, 76, .agg #[.int .i64 yc, .int .i64 yp, .int .i64 ys, .slice yA yn ym]), (8, 9, m8_), (9, 10, m9_)] ∧ (Below wc.heap.size wc w') ∧ (b 8 = true → wc.heap.size ≤ p0_) ∧ (b 9 = true → wc.heap.size ≤ p1_) ∧ (b 8 = true → b 10 = false → w'.heap[p0_]? = some (.cells #[.int .i64 0, .int .i64 0, .int .i64 0, .int .i64 0] 25 (0, 0))) ∧ (b 10 = true → w'.heap[p0_]? = some (.cells #[.int .i64 xf, .int .i64 xt, .int .i64 xc, .int .i64 xs] 25 (0, 0))) ∧ (b 9 = true → b 11 = false → w'.heap[p1_]? = some (.cells #[.int .i64 0, .int .i64 0, .int .i64 0, .slice none 0 0] 39 (0, 0))) ∧ (b 11 = true → w'.heap[p1_]? = some (.cells #[.int .i64 yc, .int .i64 yp, .int .i64 ys, .slice yA yn ym] 39 (0, 0))) ∧ (b 8 = true → b 9 = true → p0_ ≠ p1_) ∧ (b 8 = true → (m8_ : Value) = .pointer (some ⟨p0_, 0, none⟩)) ∧ (b 9 = true → (m9_ : Value) = .pointer (some ⟨p1_, 0, none⟩))) HT_.out HW_.out (by kernel_rfl) (by kernel_rfl) ?_ ?_ ?_
          · exact ⟨0, 0, .bool false, .bool false, by simp only [putSel, Bool.false_eq_true, if_false], below_drew HW.out, fun h_ => absurd h_ (by decide), fun h_ => absurd h_ (by decide), fun h_ => absurd h_ (by decide), fun h_ => absurd h_ (by decide), fun h_ => absurd h_ (by decide), fun h_ => absurd h_ (by decide), fun h_ => absurd h_ (by decide), fun h_ => absurd h_ (by decide), fun h_ => absurd h_ (by decide)⟩
          · skip
            clear HW
            refine steps_cons ?_ ?_
            · rintro b a w' ⟨p0_, p1_, m8_, m9_, ha, Q_HW, Q_HG0, Q_HG1, Q_HZ0, Q_HC0, Q_HZ1, Q_HC1, Q_HN, Q_X8_, Q_X9_⟩ hb_ hon hoff
              refine ⟨_, rfl, fun K hK => ?_⟩
              have e69 : a.tmps[69]? = some (.slice (some ad5) cs.length c5) := by rw [ha]; exact (putSel_off rfl).trans rfl
              have e70 : a.tmps[70]? = some (.int .i64 (d : Int)) := by rw [ha]; exact (putSel_off rfl).trans rfl
              replace ha := Aside0.mk ha
              have HW := Aside0.mk Q_HW
              have hb1 : (d : Int) < (cs.length : Int) := by omega
              refine value_ (w1 := w') (v := .pointer (some (ad5.add (d * 4)))) (by rfl) rfl ?_ ?_
              · go_simp
                (try simp only [i64_w])
                try rfl
              refine hK.out _ _ ⟨p0_, p1_, m8_, m9_, (by rw [ha.out]; exact putSel_upk 0 hb_ rfl rfl rfl), Q_HW, Q_HG0, Q_HG1, Q_HZ0, fun h0_ => absurd ((hoff 10 (by kernel_rfl)).symm.trans h0_) (by decide), Q_HZ1, fun h0_ => absurd ((hoff 11 (by kernel_rfl)).symm.trans h0_) (by decide), Q_HN, Q_X8_, Q_X9_⟩
            refine steps_cons ?_ ?_
            · rintro b a w' ⟨p0_, p1_, m8_, m9_, ha, Q_HW, Q_HG0, Q_HG1, Q_HZ0, Q_HC0, Q_HZ1, Q_HC1, Q_HN, Q_X8_, Q_X9_⟩ hb_ hon hoff
              refine ⟨_, rfl, fun K hK => ?_⟩
              have e71 : a.tmps[71]? = some (.pointer (some (ad5.add (d * 4)))) := by rw [ha]; exact putSel_on (e := (2, 71, .pointer (some (ad5.add (d * 4))))) 0 rfl rfl (hon 2 (by kernel_rfl)) rfl
              replace ha := Aside0.mk ha
              have HW := Aside0.mk Q_HW
              have q0 := cells_at HW.out HX0.out
              have q1 := cells_at HW.out HX1.out
              have q2 := cells_at HW.out HX2.out
              have q3 := cells_at HW.out HX3.out
              refine value_ (w1 := w') (v := .agg #[.int .i64 xf, .int .i64 xt, .int .i64 xc, .int .i64 xs]) (by rfl) rfl ?_ ?_
              · go_simp
                (try simp only [i64_w])
                try rfl
              refine hK.out _ _ ⟨p0_, p1_, m8_, m9_, (by rw [ha.out]; exact putSel_upk 1 hb_ rfl rfl rfl), Q_HW, Q_HG0, Q_HG1, Q_HZ0, fun h0_ => absurd ((hoff 10 (by kernel_rfl)).symm.trans h0_) (by decide), Q_HZ1, fun h0_ => absurd ((hoff 11 (by kernel_rfl)).symm.trans h0_) (by decide), Q_HN, Q_X8_, Q_X9_⟩
            refine steps_cons ?_ ?_
            · rintro b a w' ⟨p0_, p1_, m8_, m9_, ha, Q_HW, Q_HG0, Q_HG1, Q_HZ0, Q_HC0, Q_HZ1, Q_HC1, Q_HN, Q_X8_, Q_X9_⟩ hb_ hon hoff
              refine ⟨_, rfl, fun K hK => ?_⟩
              have e73 : a.tmps[73]? = some (.slice (some ad6) ds.length c6) := by rw [ha]; exact (putSel_off rfl).trans rfl
              have e74 : a.tmps[74]? = some (.int .i64 (d : Int)) := by rw [ha]; exact (putSel_off rfl).trans rfl
              replace ha := Aside0.mk ha
              have HW := Aside0.mk Q_HW
              have hb1 : (d : Int) < (ds.length : Int) := by omega
              refine value_ (w1 := w') (v := .pointer (some (ad6.add (d * 4)))) (by rfl) rfl ?_ ?_
              · go_simp
                (try simp only [i64_w])
                try rfl
              refine hK.out _ _ ⟨p0_, p1_, m8_, m9_, (by rw [ha.out]; exact putSel_upk 2 hb_ rfl rfl rfl), Q_HW, Q_HG0, Q_HG1, Q_HZ0, Q_HC0, Q_HZ1, fun h0_ => absurd ((hoff 11 (by kernel_rfl)).symm.trans h0_) (by decide), Q_HN, Q_X8_, Q_X9_⟩
            refine steps_cons ?_ ?_
            · rintro b a w' ⟨p0_, p1_, m8_, m9_, ha, Q_HW, Q_HG0, Q_HG1, Q_HZ0, Q_HC0, Q_HZ1, Q_HC1, Q_HN, Q_X8_, Q_X9_⟩ hb_ hon hoff
              refine ⟨_, rfl, fun K hK => ?_⟩
              have e75 : a.tmps[75]? = some (.pointer (some (ad6.add (d * 4)))) := by rw [ha]; exact putSel_on (e := (6, 75, .pointer (some (ad6.add (d * 4))))) 2 rfl rfl (hon 6 (by kernel_rfl)) rfl
              replace ha := Aside0.mk ha
              have HW := Aside0.mk Q_HW
              have q0 := cells_at HW.out HY0.out
              have q1 := cells_at HW.out HY1.out
              have q2 := cells_at HW.out HY2.out
              have q3 := cells_at HW.out HY3.out
              refine value_ (w1 := w') (v := .agg #[.int .i64 yc, .int .i64 yp, .int .i64 ys, .slice yA yn ym]) (by rfl) rfl ?_ ?_
              · go_simp
                (try simp only [i64_w])
                try rfl
              refine hK.out _ _ ⟨p0_, p1_, m8_, m9_, (by rw [ha.out]; exact putSel_upk 3 hb_ rfl rfl rfl), Q_HW, Q_HG0, Q_HG1, Q_HZ0, Q_HC0, Q_HZ1, fun h0_ => absurd ((hoff 11 (by kernel_rfl)).symm.trans h0_) (by decide), Q_HN, Q_X8_, Q_X9_⟩
            refine steps_cons ?_ ?_
            · rintro b a w' ⟨p0_, p1_, m8_, m9_, ha, Q_HW, Q_HG0, Q_HG1, Q_HZ0, Q_HC0, Q_HZ1, Q_HC1, Q_HN, Q_X8_, Q_X9_⟩ hb_ hon hoff
              refine ⟨_, rfl, fun K hK => ?_⟩
              replace ha := Aside0.mk ha
              have HW := Aside0.mk Q_HW
              refine value_ (w1 := w'.alloc (.cells #[.int .i64 0, .int .i64 0, .int .i64 0, .int .i64 0] 25)) (v := .pointer (some ⟨w'.heap.size, 0, none⟩)) (by rfl) rfl (by go_simp) ?_
              refine hK.out _ _ ⟨w'.heap.size, p1_, (.pointer (some ⟨w'.heap.size, 0, none⟩)), m9_, (by rw [ha.out]; exact putSel_upk 4 hb_ rfl rfl rfl), below_alloc HW.out _, fun _ => HW.out.size, Q_HG1, fun _ _ => blk_new w' _, fun h0_ => absurd ((hoff 10 (by kernel_rfl)).symm.trans h0_) (by decide), fun h0_ h1_ => blk_alloc (Q_HZ1 h0_ h1_) _, fun h0_ => absurd ((hoff 11 (by kernel_rfl)).symm.trans h0_) (by decide), fun _ _ => (Nat.ne_of_gt (blk_lt (Q_HZ1 (by assumption) (hoff 11 (by kernel_rfl))))), fun _ => rfl, Q_X9_⟩
            refine steps_cons ?_ ?_
            · rintro b a w' ⟨p0_, p1_, m8_, m9_, ha, Q_HW, Q_HG0, Q_HG1, Q_HZ0, Q_HC0, Q_HZ1, Q_HC1, Q_HN, Q_X8_, Q_X9_⟩ hb_ hon hoff
              refine ⟨_, rfl, fun K hK => ?_⟩
              replace ha := Aside0.mk ha
              have HW := Aside0.mk Q_HW
              refine value_ (w1 := w'.alloc (.cells #[.int .i64 0, .int .i64 0, .int .i64 0, .slice none 0 0] 39)) (v := .pointer (some ⟨w'.heap.size, 0, none⟩)) (by rfl) rfl (by go_simp) ?_
              refine hK.out _ _ ⟨p0_, w'.heap.size, m8_, (.pointer (some ⟨w'.heap.size, 0, none⟩)), (by rw [ha.out]; exact putSel_upk 5 hb_ rfl rfl rfl), below_alloc HW.out _, Q_HG0, fun _ => HW.out.size, fun h0_ h1_ => blk_alloc (Q_HZ0 h0_ h1_) _, fun h0_ => absurd ((hoff 10 (by kernel_rfl)).symm.trans h0_) (by decide), fun _ _ => blk_new w' _, fun h0_ => absurd ((hoff 11 (by kernel_rfl)).symm.trans h0_) (by decide), fun _ _ => (Nat.ne_of_lt (blk_lt (Q_HZ0 (by assumption) (hoff 10 (by kernel_rfl))))), Q_X8_, fun _ => rfl⟩
            refine steps_cons ?_ ?_
            · rintro b a w' ⟨p0_, p1_, m8_, m9_, ha, Q_HW, Q_HG0, Q_HG1, Q_HZ0, Q_HC0, Q_HZ1, Q_HC1, Q_HN, Q_X8_, Q_X9_⟩ hb_ hon hoff
              refine ⟨_, rfl, fun K hK => ?_⟩
              have e9 : a.tmps[9]? = some (m8_) := by rw [ha]; exact putSel_on (e := (8, 9, m8_)) 4 rfl rfl (hon 8 (by kernel_rfl)) rfl
              rw [Q_X8_ (hon 8 (by kernel_rfl))] at e9
              have e72 : a.tmps[72]? = some (.agg #[.int .i64 xf, .int .i64 xt, .int .i64 xc, .int .i64 xs]) := by rw [ha]; exact putSel_on (e := (3, 72, .agg #[.int .i64 xf, .int .i64 xt, .int .i64 xc, .int .i64 xs])) 1 rfl rfl (hon 3 (by kernel_rfl)) rfl
              replace ha := Aside0.mk ha
              have HW := Aside0.mk Q_HW
              have HG0 := Aside0.mk (Q_HG0 (hon 8 (by kernel_rfl)))
              have HG1 := Aside0.mk (Q_HG1 (hon 9 (by kernel_rfl)))
              have HZ0 := Aside0.mk (Q_HZ0 (hon 8 (by kernel_rfl)) hb_)
              have HZ1 := Aside0.mk (Q_HZ1 (hon 9 (by kernel_rfl)) (hoff 11 (by kernel_rfl)))
              have HN := Aside0.mk (Q_HN (hon 8 (by kernel_rfl)) (hon 9 (by kernel_rfl)))
              have z0 := blk_cell HZ0.out 0
              have z1 := blk_cell HZ0.out 1
              have z2 := blk_cell HZ0.out 2
              have z3 := blk_cell HZ0.out 3
              have f0 := blk_frozen HZ0.out 0
              have f1 := blk_frozen HZ0.out 1
              have f2 := blk_frozen HZ0.out 2
              have f3 := blk_frozen HZ0.out 3
              have hl := blk_lt HZ0.out
              refine skip_ (w1 := setv4 w' p0_ (.int .i64 xf) (.int .i64 xt) (.int .i64 xc) (.int .i64 xs)) (by rfl) rfl (by unfold setv4; go_simp) ?_
              refine hK.out _ _ ⟨p0_, p1_, m8_, m9_, (by rw [ha.out]; exact putSel_none (v := undef) rfl), belowv4 HW.out HG0.out, Q_HG0, Q_HG1, fun _ h1_ => absurd ((up_self b 10).symm.trans h1_) (by decide), fun _ => blkv4 HZ0.out, fun _ _ => farv4 HZ1.out (Ne.symm HN.out), fun h0_ => absurd ((hoff 11 (by kernel_rfl)).symm.trans h0_) (by decide), Q_HN, Q_X8_, Q_X9_⟩
            refine steps_cons ?_ ?_
            · rintro b a w' ⟨p0_, p1_, m8_, m9_, ha, Q_HW, Q_HG0, Q_HG1, Q_HZ0, Q_HC0, Q_HZ1, Q_HC1, Q_HN, Q_X8_, Q_X9_⟩ hb_ hon hoff
              refine ⟨_, rfl, fun K hK => ?_⟩
              have e10 : a.tmps[10]? = some (m9_) := by rw [ha]; exact putSel_on (e := (9, 10, m9_)) 5 rfl rfl (hon 9 (by kernel_rfl)) rfl
              rw [Q_X9_ (hon 9 (by kernel_rfl))] at e10
              have e76 : a.tmps[76]? = some (.agg #[.int .i64 yc, .int .i64 yp, .int .i64 ys, .slice yA yn ym]) := by rw [ha]; exact putSel_on (e := (7, 76, .agg #[.int .i64 yc, .int .i64 yp, .int .i64 ys, .slice yA yn ym])) 3 rfl rfl (hon 7 (by kernel_rfl)) rfl
              replace ha := Aside0.mk ha
              have HW := Aside0.mk Q_HW
              have HG0 := Aside0.mk (Q_HG0 (hon 8 (by kernel_rfl)))
              have HG1 := Aside0.mk (Q_HG1 (hon 9 (by kernel_rfl)))
              have HC0 := Aside0.mk (Q_HC0 (hon 10 (by kernel_rfl)))
              have HZ1 := Aside0.mk (Q_HZ1 (hon 9 (by kernel_rfl)) hb_)
              have HN := Aside0.mk (Q_HN (hon 8 (by kernel_rfl)) (hon 9 (by kernel_rfl)))
              have z0 := blk_cell HZ1.out 0
              have z1 := blk_cell HZ1.out 1
              have z2 := blk_cell HZ1.out 2
              have z3 := blk_cell HZ1.out 3
              have f0 := blk_frozen HZ1.out 0
              have f1 := blk_frozen HZ1.out 1
              have f2 := blk_frozen HZ1.out 2
              have f3 := blk_frozen HZ1.out 3
              have hl := blk_lt HZ1.out
              refine skip_ (w1 := setv4 w' p1_ (.int .i64 yc) (.int .i64 yp) (.int .i64 ys) (.slice yA yn ym)) (by rfl) rfl (by unfold setv4; go_simp) ?_
              refine hK.out _ _ ⟨p0_, p1_, m8_, m9_, (by rw [ha.out]; exact putSel_none (v := undef) rfl), belowv4 HW.out HG1.out, Q_HG0, Q_HG1, fun _ h1_ => absurd ((hon 10 (by kernel_rfl)).symm.trans h1_) (by decide), fun _ => farv4 HC0.out HN.out, fun _ h1_ => absurd ((up_self b 11).symm.trans h1_) (by decide), fun _ => blkv4 HZ1.out, Q_HN, Q_X8_, Q_X9_⟩
            exact steps_nil
          · rintro b a w' hall ⟨p0_, p1_, m8_, m9_, ha, Q_HW, Q_HG0, Q_HG1, Q_HZ0, Q_HC0, Q_HZ1, Q_HC1, Q_HN, Q_X8_, Q_X9_⟩
            clear HW
            have hb2_ := hall 2 (by kernel_rfl)
            have hb3_ := hall 3 (by kernel_rfl)
            have hb6_ := hall 6 (by kernel_rfl)
            have hb7_ := hall 7 (by kernel_rfl)
            have hb8_ := hall 8 (by kernel_rfl)
            have hb9_ := hall 9 (by kernel_rfl)
            have hb10_ := hall 10 (by kernel_rfl)
            have hb11_ := hall 11 (by kernel_rfl)
            subst ha
            obtain rfl := Q_X8_ hb8_
            obtain rfl := Q_X9_ hb9_
            simp only [putSel, hb2_, hb3_, hb6_, hb7_, hb8_, hb9_, hb10_, hb11_, if_true, Act.put, List.setIfInBounds_toArray, List.set_cons_zero, List.set_cons_succ]
            have HW := Aside0.mk Q_HW
            clear Q_HW
            have HG0 := Aside0.mk (Q_HG0 hb8_)
            clear Q_HG0
            have HG1 := Aside0.mk (Q_HG1 hb9_)
            clear Q_HG1
            clear Q_HZ0
            have HC0 := Aside0.mk (Q_HC0 hb10_)
            clear Q_HC0
            clear Q_HZ1
            have HC1 := Aside0.mk (Q_HC1 hb11_)
            clear Q_HC1
            have HN := Aside0.mk (Q_HN hb8_ hb9_)
            clear Q_HN
            clear hall hb2_ hb3_ hb6_ hb7_ hb8_ hb9_ hb10_ hb11_
            go_wp2
            go_meet
            case rel => exact ⟨p0_, p1_, rfl, rfl, HN.out, HG0.out, HG1.out, HC0, HC1, HW⟩
        case rest =>
          obtain ⟨P9, P10, rfl, rfl, hn, hg9, hg10, HP9, HP10, HW2⟩ := hcut
          have p0 := blk_cell HP9.out 0
          have p1 := blk_cell HP9.out 1
          have p2 := blk_cell HP9.out 2
          have p3 := blk_cell HP9.out 3
          have q3 : ∀ a b c, (((wc.alloc a).alloc b).alloc c).cell? ⟨P10, 3, none⟩ = some (.slice yA yn ym) := fun a b c => blk_cell (blk_alloc (blk_alloc (blk_alloc HP10.out a) b) c) 3
          have q4 : ∀ a b c, (((wc.alloc a).alloc b).alloc c).frozen? ⟨P10, 3, none⟩ = false := fun a b c => blk_frozen (blk_alloc (blk_alloc (blk_alloc HP10.out a) b) c) 3
          have hl9 := blk_lt HP9.out
          have hl10 := blk_lt HP10.out
          clear HW HX0 HX1 HX2 HX3 HY0 HY1 HY2 HY3
          go_upto_region 18 with fail
          have HWd := Aside0.mk (below_set (j := 3) (v := .slice (some ⟨wc.heap.size + 1 + 1, 0, none⟩) 1 1) (below_alloc (below_alloc (below_alloc HW2.out (.cells #[.int .i64 xt, .int .i64 xf, .int .i64 xc, .int .i64 xs] 25)) (.cells #[.int .i64 xt, .int .i64 xf, .int .i64 xc, .int .i64 9] 25)) (.cells #[.string ⟨#[97]⟩, .bool false, .int .i64 0, .string ⟨#[]⟩] 43)) hg10)
          have HQ9 := Aside0.mk (blk_far (p := ⟨P10, 3, none⟩) (blk_alloc (blk_alloc (blk_alloc HP9.out (.cells #[.int .i64 xt, .int .i64 xf, .int .i64 xc, .int .i64 xs] 25)) (.cells #[.int .i64 xt, .int .i64 xf, .int .i64 xc, .int .i64 9] 25)) (.cells #[.string ⟨#[97]⟩, .bool false, .int .i64 0, .string ⟨#[]⟩] 43)) hn (.slice (some ⟨wc.heap.size + 1 + 1, 0, none⟩) 1 1))
          have HQ10 := Aside0.mk (blk_put (blk_alloc (blk_alloc (blk_alloc HP10.out (.cells #[.int .i64 xt, .int .i64 xf, .int .i64 xc, .int .i64 xs] 25)) (.cells #[.int .i64 xt, .int .i64 xf, .int .i64 xc, .int .i64 9] 25)) (.cells #[.string ⟨#[97]⟩, .bool false, .int .i64 0, .string ⟨#[]⟩] 43)) 3 (.slice (some ⟨wc.heap.size + 1 + 1, 0, none⟩) 1 1) rfl)
          have HQ11 := Aside0.mk (blk_far (p := ⟨P10, 3, none⟩) (blk_alloc (blk_alloc (blk_new wc (.cells #[.int .i64 xt, .int .i64 xf, .int .i64 xc, .int .i64 xs] 25)) (.cells #[.int .i64 xt, .int .i64 xf, .int .i64 xc, .int .i64 9] 25)) (.cells #[.string ⟨#[97]⟩, .bool false, .int .i64 0, .string ⟨#[]⟩] 43)) (Nat.ne_of_gt hl10) (.slice (some ⟨wc.heap.size + 1 + 1, 0, none⟩) 1 1))
          have hs1 : (wc.alloc (.cells #[.int .i64 xt, .int .i64 xf, .int .i64 xc, .int .i64 xs] 25)).heap.size = wc.heap.size + 1 := by simp
          have HQ12 := Aside0.mk (blk_far (p := ⟨P10, 3, none⟩) (blk_alloc (blk_new (wc.alloc (.cells #[.int .i64 xt, .int .i64 xf, .int .i64 xc, .int .i64 xs] 25)) (.cells #[.int .i64 xt, .int .i64 xf, .int .i64 xc, .int .i64 9] 25)) (.cells #[.string ⟨#[97]⟩, .bool false, .int .i64 0, .string ⟨#[]⟩] 43)) (show _ ≠ P10 by rw [hs1]; omega) (.slice (some ⟨wc.heap.size + 1 + 1, 0, none⟩) 1 1))
          rw [hs1] at HQ12
          generalize ((((wc.alloc (.cells #[.int .i64 xt, .int .i64 xf, .int .i64 xc, .int .i64 xs] 25)).alloc (.cells #[.int .i64 xt, .int .i64 xf, .int .i64 xc, .int .i64 9] 25)).alloc (.cells #[.string ⟨#[97]⟩, .bool false, .int .i64 0, .string ⟨#[]⟩] 43)).setCell ⟨P10, 3, none⟩ (.slice (some ⟨wc.heap.size + 1 + 1, 0, none⟩) 1 1)) = wd at *
          replace HC5 := Aside0.mk (Kd.C_below HC5.out HWd.out)
          replace HC6 := Aside0.mk (Kd.C_below HC6.out HWd.out)
          replace HB := Aside0.mk (below_step HB.out HWd.out)
          have hm : Mo cs ∧ Md ds := ⟨HM.out, HD.out⟩
          have hr1 : CrOk (xf, xt, xc, xs) := HOKc.out _ (List.mem_of_getElem? HX.out)
          have HO1 : Aside0 (∀ x ∈ cs ++ [(xf, xt, xc, xs)], CrOk x) := ⟨fun x hx => by rcases List.mem_append.1 hx with hx | hx; exact HOKc.out x hx; rw [List.mem_singleton.1 hx]; exact hr1⟩
          have HO2 : Aside0 (∀ x ∈ cs ++ [(xt, xf, xc, xs)], CrOk x) := ⟨fun x hx => by rcases List.mem_append.1 hx with hx | hx; exact HOKc.out x hx; rw [List.mem_singleton.1 hx]; exact rev_ok hr1⟩
          have HO3 : Aside0 (∀ x ∈ [(xt, xf, xc, xs)] ++ cs, CrOk x) := ⟨fun x hx => by rcases List.mem_append.1 hx with hx | hx; rw [List.mem_singleton.1 hx]; exact rev_ok hr1; exact HOKc.out x hx⟩
          have HO4 : Aside0 (∀ x ∈ [(xt, xf, xc, (9 : Int))] ++ cs, CrOk x) := ⟨fun x hx => by rcases List.mem_append.1 hx with hx | hx; rw [List.mem_singleton.1 hx]; exact ⟨hr1.2.1, hr1.1, hr1.2.2.1, by show InI64 9; exact inI64 (by omega) (by omega)⟩; exact HOKc.out x hx⟩
          have HO5 : Aside0 (∀ x ∈ [(yc, yp, ys, (some ⟨wc.heap.size + 1 + 1, 0, none⟩ : Option Addr), 1, 1)] ++ ds, GtOk (gt x)) := ⟨fun x hx => by rcases List.mem_append.1 hx with hx | hx; rw [List.mem_singleton.1 hx]; have := HOKd.out _ (List.mem_of_getElem? HY.out); exact this; exact HOKd.out x hx⟩
          have HV1 := Lib.hid (mo_twice HX.out)
          have HV2 : Hid (decide (cs ++ [(xt, xf, xc, xs)]).Nodup = true) := Lib.hid (mo_back HM.out HX.out)
          have HV3 : Hid (decide (OneWay ([(xt, xf, xc, xs)] ++ cs)) = false) := Lib.hid (mo_both HX.out)
          have HV4 : Hid (decide (OneWay ([(xt, xf, xc, 9)] ++ cs)) = true) := Lib.hid (mo_other HM.out HX.out)
          have HV5 : Hid (decide (([(yc, yp, ys, (some ⟨wc.heap.size + 1 + 1, 0, none⟩ : Option Addr), 1, 1)] ++ ds).map gt).Nodup = false) := Lib.hid (md_twice HY.out rfl)
          have HW := Aside0.mk (Below.refl wd.heap.size wd)
          clear hm hr1 HM HD HX HY HWI HOKc HOKd HWd HW2 HP9 HP10 p0 p1 p2 p3 q3 q4 hl9 hl10 hg9 hg10 hn hs1
          refine start_ (n := 44) (S := fun w' => True) (ds := []) #[false, false, false, false, false, false, false, false, false, false, false, false, false, false, false, false, false, false, false, false, false, false, false, false, false, false, false, false, false, false, false, false, false, false, false, false, false, false, false, false, false, false, false, false] (by kernel_rfl) rfl rfl trivial (fun hHeld => ?_)
          refine with_tabW lmReg.tab18 lmReg.bits18 (fun HT_ HW_ => ?_)
          refine pure_ (i := 1) (N := some 91) (v := ?_) (a' := ?_) #[false, true, false, false, false, false, false, false, false, false, false, false, false, false, false, false, false, false, false, false, false, false, false, false, false, false, false, false, false, false, false, false, false, false, false, false, false, false, false, false, false, false, false, false] rfl rfl (any_of HT_.out (by kernel_rfl)) (fun _ _ _ h => h) (Or.inl ⟨by rfl, ?_⟩) ?_ ?_
          rotate_left
          · intro w'
            go_simp
            with_reducible rfl
          rotate_left
          · simp only [Act.put, List.setIfInBounds_toArray, List.set_cons_zero, List.set_cons_succ, i64_w, i32_w]
            rfl
          refine inv_at [0, 2, 3, 4, 5, 6, 7, 8, 9, 10, 11, 12, 13, 14, 15, 16, 17, 18, 19, 20, 21, 22, 23, 24, 25, 26, 27, 28, 29, 30, 31, 32, 33, 34, 35, 36, 37, 38, 39, 40, 41, 42, 43] (fun a0_ b a w' => ∃ (b0_ : Nat) (b4_ : Nat) (b9_ : Nat) (b13_ : Nat) (b19_ : Nat) (b27_ : Nat) (b34_ : Nat) (s2_ : Value) (s5_ : Value) (s11_ : Value) (s14_ : Value) (s21_ : Value) (s29_ : Value) (s36_ : Value) (m0_ : Value) (m4_ : Value) (m9_ : Value) (m13_ : Value) (m19_ : Value) (m27_ : Value) (m34_ : Value), a = putSel a0_ b [(0, 90, m0_), (2, 92, s2_), (3, 93, .agg #[.int .i64 xf, .int .i64 xt, .int .i64 xc, .int .i64 xs]), (4, 94, m4_), (5, 95, s5_), (6, 96, .bool false), (7, 97, .bool true), (8, 98, .bool true), (9, 99, m9_), (10, 100, .slice (some ad5) cs.length c5), (11, 101, s11_), (12, 102, .agg #[.int .i64 xt, .int .i64 xf, .int .i64 xc, .int .i64 xs]), (13, 103, m13_), (14, 104, s14_), (15, 105, .bool true), (16, 106, .bool true), (17, 107, .bool true), (18, 108, .agg #[.int .i64 xt, .int .i64 xf, .int .i64 xc, .int .i64 xs]), (19, 109, m19_), (20, 110, .slice (some ad5) cs.length c5), (21, 111, s21_), (22, 112, .bool false), (23, 113, .bool true), (24, 114, .bool true), (25, 115, .bool true), (26, 116, .agg #[.int .i64 xt, .int .i64 xf, .int .i64 xc, .int .i64 9]), (27, 117, m27_), (28, 118, .slice (some ad5) cs.length c5), (29, 119, s29_), (30, 120, .bool true), (31, 121, .bool true), (32, 122, .bool true), (33, 123, .agg #[.int .i64 yc, .int .i64 yp, .int .i64 ys, .slice (some ⟨wc.heap.size + 1 + 1, 0, none⟩) 1 1]), (34, 124, m34_), (35, 125, .slice (some ad6) ds.length c6), (36, 126, s36_), (37, 127, .bool false), (38, 128, .bool true), (39, 129, .bool true), (40, 130, .bool true), (41, 131, .bool true), (42, 132, .bool true), (43, 4, .bool true)] ∧ (Below wd.heap.size wd w') ∧ (b 0 = true → b 2 = false → Kd.R kCr 25 w' wd.heap.size (fun _ => True) (.slice (some ⟨b0_, 0, none⟩) 0 0) ([])) ∧ (b 4 = true → b 5 = false → w'.heap[b4_]? = some (.cells #[.int .i64 xf, .int .i64 xt, .int .i64 xc, .int .i64 xs] 25 (0, 0))) ∧ (b 0 = true → b 4 = true → b 2 = false → b0_ ≠ b4_) ∧ (b 2 = true → b 5 = false → Kd.R kCr 25 w' wd.heap.size (fun _ => True) (s2_) (cs)) ∧ (b 5 = true → b 6 = false → Kd.R kCr 25 w' wd.heap.size (fun _ => True) (s5_) (cs ++ [(xf, xt, xc, xs)])) ∧ (b 9 = true → b 11 = false → Kd.R kCr 25 w' wd.heap.size (fun _ => True) (.slice (some ⟨b9_, 0, none⟩) 0 0) ([])) ∧ (b 13 = true → b 14 = false → w'.heap[b13_]? = some (.cells #[.int .i64 xt, .int .i64 xf, .int .i64 xc, .int .i64 xs] 25 (0, 0))) ∧ (b 9 = true → b 13 = true → b 11 = false → b9_ ≠ b13_) ∧ (b 11 = true → b 14 = false → Kd.R kCr 25 w' wd.heap.size (fun _ => True) (s11_) (cs)) ∧ (b 14 = true → b 15 = false → Kd.R kCr 25 w' wd.heap.size (fun _ => True) (s14_) (cs ++ [(xt, xf, xc, xs)])) ∧ (b 19 = true → b 21 = false → Kd.R kCr 25 w' wd.heap.size (fun _ => True) (.slice (some ⟨b19_, 0, none⟩) 1 1) ([(xt, xf, xc, xs)])) ∧ (b 21 = true → b 22 = false → Kd.R kCr 25 w' wd.heap.size (fun _ => True) (s21_) ([(xt, xf, xc, xs)] ++ cs)) ∧ (b 27 = true → b 29 = false → Kd.R kCr 25 w' wd.heap.size (fun _ => True) (.slice (some ⟨b27_, 0, none⟩) 1 1) ([(xt, xf, xc, 9)])) ∧ (b 29 = true → b 30 = false → Kd.R kCr 25 w' wd.heap.size (fun _ => True) (s29_) ([(xt, xf, xc, 9)] ++ cs)) ∧ (b 34 = true → b 36 = false → Kd.R kDl 39 w' wd.heap.size (fun _ => True) (.slice (some ⟨b34_, 0, none⟩) 1 1) ([(yc, yp, ys, (some ⟨wc.heap.size + 1 + 1, 0, none⟩ : Option Addr), 1, 1)])) ∧ (b 36 = true → b 37 = false → Kd.R kDl 39 w' wd.heap.size (fun _ => True) (s36_) ([(yc, yp, ys, (some ⟨wc.heap.size + 1 + 1, 0, none⟩ : Option Addr), 1, 1)] ++ ds)) ∧ (b 0 = true → (m0_ : Value) = .slice (some ⟨b0_, 0, none⟩) 0 0) ∧ (b 4 = true → (m4_ : Value) = .slice (some ⟨b4_, 0, none⟩) 1 1) ∧ (b 9 = true → (m9_ : Value) = .slice (some ⟨b9_, 0, none⟩) 0 0) ∧ (b 13 = true → (m13_ : Value) = .slice (some ⟨b13_, 0, none⟩) 1 1) ∧ (b 19 = true → (m19_ : Value) = .slice (some ⟨b19_, 0, none⟩) 1 1) ∧ (b 27 = true → (m27_ : Value) = .slice (some ⟨b27_, 0, none⟩) 1 1) ∧ (b 34 = true → (m34_ : Value) = .slice (some ⟨b34_, 0, none⟩) 1 1)) HT_.out HW_.out (by kernel_rfl) (by kernel_rfl) ?_ ?_ ?_
          · exact ⟨0, 0, 0, 0, 0, 0, 0, .bool false, .bool false, .bool false, .bool false, .bool false, .bool false, .bool false, .bool false, .bool false, .bool false, .bool false, .bool false, .bool false, .bool false, by simp only [putSel, Bool.false_eq_true, if_false], below_drew HW.out, fun h_ => absurd h_ (by decide), fun h_ => absurd h_ (by decide), fun h_ => absurd h_ (by decide), fun h_ => absurd h_ (by decide), fun h_ => absurd h_ (by decide), fun h_ => absurd h_ (by decide), fun h_ => absurd h_ (by decide), fun h_ => absurd h_ (by decide), fun h_ => absurd h_ (by decide), fun h_ => absurd h_ (by decide), fun h_ => absurd h_ (by decide), fun h_ => absurd h_ (by decide), fun h_ => absurd h_ (by decide), fun h_ => absurd h_ (by decide), fun h_ => absurd h_ (by decide), fun h_ => absurd h_ (by decide), fun h_ => absurd h_ (by decide), fun h_ => absurd h_ (by decide), fun h_ => absurd h_ (by decide), fun h_ => absurd h_ (by decide), fun h_ => absurd h_ (by decide), fun h_ => absurd h_ (by decide), fun h_ => absurd h_ (by decide)⟩
          · skip
            clear HW
            refine steps_cons ?_ ?_
            · rintro b a w' ⟨b0_, b4_, b9_, b13_, b19_, b27_, b34_, s2_, s5_, s11_, s14_, s21_, s29_, s36_, m0_, m4_, m9_, m13_, m19_, m27_, m34_, ha, Q_HW, Q_H0, Q_HS4, Q_HN0, Q_H2, Q_H5, Q_H9, Q_HS13, Q_HN9, Q_H11, Q_H14, Q_H19, Q_H21, Q_H27, Q_H29, Q_H34, Q_H36, Q_X0_, Q_X4_, Q_X9_, Q_X13_, Q_X19_, Q_X27_, Q_X34_⟩ hb_ hon hoff
              refine ⟨_, rfl, fun K hK => ?_⟩
              replace ha := Aside0.mk ha
              have HW := Aside0.mk Q_HW
              refine value_ (w1 := w'.alloc (.cells #[] 25)) (v := .slice (some ⟨w'.heap.size, 0, none⟩) 0 0) (by rfl) rfl (by go_simp) ?_
              refine hK.out _ _ ⟨w'.heap.size, b4_, b9_, b13_, b19_, b27_, b34_, s2_, s5_, s11_, s14_, s21_, s29_, s36_, (.slice (some ⟨w'.heap.size, 0, none⟩) 0 0), m4_, m9_, m13_, m19_, m27_, m34_, (by rw [ha.out]; exact putSel_upk 0 hb_ rfl rfl rfl), below_alloc HW.out _, fun _ _ => Kd.R_lower (own_emptyCr w') HW.out.size, fun h0_ h1_ => blk_alloc (Q_HS4 h0_ h1_) _, fun _ _ _ => (Nat.ne_of_gt (blk_lt (Q_HS4 (by assumption) (hoff 5 (by kernel_rfl))))), fun h0_ _ => absurd ((hoff 2 (by kernel_rfl)).symm.trans h0_) (by decide), fun h0_ _ => absurd ((hoff 5 (by kernel_rfl)).symm.trans h0_) (by decide), fun h0_ _ => absurd ((hoff 9 (by kernel_rfl)).symm.trans h0_) (by decide), fun h0_ _ => absurd ((hoff 13 (by kernel_rfl)).symm.trans h0_) (by decide), fun h0_ _ _ => absurd ((hoff 9 (by kernel_rfl)).symm.trans h0_) (by decide), fun h0_ _ => absurd ((hoff 11 (by kernel_rfl)).symm.trans h0_) (by decide), fun h0_ _ => absurd ((hoff 14 (by kernel_rfl)).symm.trans h0_) (by decide), fun h0_ _ => absurd ((hoff 19 (by kernel_rfl)).symm.trans h0_) (by decide), fun h0_ _ => absurd ((hoff 21 (by kernel_rfl)).symm.trans h0_) (by decide), fun h0_ _ => absurd ((hoff 27 (by kernel_rfl)).symm.trans h0_) (by decide), fun h0_ _ => absurd ((hoff 29 (by kernel_rfl)).symm.trans h0_) (by decide), fun h0_ _ => absurd ((hoff 34 (by kernel_rfl)).symm.trans h0_) (by decide), fun h0_ _ => absurd ((hoff 36 (by kernel_rfl)).symm.trans h0_) (by decide), fun _ => rfl, Q_X4_, fun h0_ => absurd ((hoff 9 (by kernel_rfl)).symm.trans h0_) (by decide), fun h0_ => absurd ((hoff 13 (by kernel_rfl)).symm.trans h0_) (by decide), fun h0_ => absurd ((hoff 19 (by kernel_rfl)).symm.trans h0_) (by decide), fun h0_ => absurd ((hoff 27 (by kernel_rfl)).symm.trans h0_) (by decide), fun h0_ => absurd ((hoff 34 (by kernel_rfl)).symm.trans h0_) (by decide)⟩
            refine steps_cons ?_ ?_
            · rintro b a w' ⟨b0_, b4_, b9_, b13_, b19_, b27_, b34_, s2_, s5_, s11_, s14_, s21_, s29_, s36_, m0_, m4_, m9_, m13_, m19_, m27_, m34_, ha, Q_HW, Q_H0, Q_HS4, Q_HN0, Q_H2, Q_H5, Q_H9, Q_HS13, Q_HN9, Q_H11, Q_H14, Q_H19, Q_H21, Q_H27, Q_H29, Q_H34, Q_H36, Q_X0_, Q_X4_, Q_X9_, Q_X13_, Q_X19_, Q_X27_, Q_X34_⟩ hb_ hon hoff
              refine ⟨_, rfl, fun K hK => ?_⟩
              have e90 : a.tmps[90]? = some (m0_) := by rw [ha]; exact putSel_on (e := (0, 90, m0_)) 0 rfl rfl (hon 0 (by kernel_rfl)) rfl
              rw [Q_X0_ (hon 0 (by kernel_rfl))] at e90
              have e91 : a.tmps[91]? = some (.slice (some ad5) cs.length c5) := by rw [ha]; exact (putSel_off rfl).trans rfl
              replace ha := Aside0.mk ha
              have HW := Aside0.mk Q_HW
              have H0 := Aside0.mk (Q_H0 (hon 0 (by kernel_rfl)) hb_)
              refine cat_step kCr flatKM wd w' wd.heap.size (by rfl) (.tmp 90) (.tmp 91) 27 25 (.agg #[.int .i64 0, .int .i64 0, .int .i64 0, .int .i64 0]) 32 rfl Try.underlying27 infoCr rfl (by decide) (by omega) (.slice (some ⟨b0_, 0, none⟩) 0 0) ([]) (cs) (some ad5) (cs.length) (c5) (eval_of e90) (eval_of e91) (H0.out) (Kd.C_below HC5.out HW.out) HW.out HW.out.size (by simp; omega) ?_
              intro v1 w1 ho hb hg
              rw [List.nil_append] at ho
              refine hK.out _ _ ⟨b0_, b4_, b9_, b13_, b19_, b27_, b34_, v1, s5_, s11_, s14_, s21_, s29_, s36_, m0_, m4_, m9_, m13_, m19_, m27_, m34_, (by rw [ha.out]; exact putSel_upk 1 hb_ rfl rfl rfl), hb, fun _ h1_ => absurd ((up_self b 2).symm.trans h1_) (by decide), fun h0_ h1_ => blk_grown (Q_HS4 h0_ h1_) hg (own_ne (Q_HN0 (hon 0 (by kernel_rfl)) h0_ hb_)), fun _ _ h2_ => absurd ((up_self b 2).symm.trans h2_) (by decide), fun _ _ => ho, fun h0_ _ => absurd ((hoff 5 (by kernel_rfl)).symm.trans h0_) (by decide), fun h0_ _ => absurd ((hoff 9 (by kernel_rfl)).symm.trans h0_) (by decide), fun h0_ _ => absurd ((hoff 13 (by kernel_rfl)).symm.trans h0_) (by decide), fun h0_ _ _ => absurd ((hoff 9 (by kernel_rfl)).symm.trans h0_) (by decide), fun h0_ _ => absurd ((hoff 11 (by kernel_rfl)).symm.trans h0_) (by decide), fun h0_ _ => absurd ((hoff 14 (by kernel_rfl)).symm.trans h0_) (by decide), fun h0_ _ => absurd ((hoff 19 (by kernel_rfl)).symm.trans h0_) (by decide), fun h0_ _ => absurd ((hoff 21 (by kernel_rfl)).symm.trans h0_) (by decide), fun h0_ _ => absurd ((hoff 27 (by kernel_rfl)).symm.trans h0_) (by decide), fun h0_ _ => absurd ((hoff 29 (by kernel_rfl)).symm.trans h0_) (by decide), fun h0_ _ => absurd ((hoff 34 (by kernel_rfl)).symm.trans h0_) (by decide), fun h0_ _ => absurd ((hoff 36 (by kernel_rfl)).symm.trans h0_) (by decide), Q_X0_, Q_X4_, fun h0_ => absurd ((hoff 9 (by kernel_rfl)).symm.trans h0_) (by decide), fun h0_ => absurd ((hoff 13 (by kernel_rfl)).symm.trans h0_) (by decide), fun h0_ => absurd ((hoff 19 (by kernel_rfl)).symm.trans h0_) (by decide), fun h0_ => absurd ((hoff 27 (by kernel_rfl)).symm.trans h0_) (by decide), fun h0_ => absurd ((hoff 34 (by kernel_rfl)).symm.trans h0_) (by decide)⟩
            refine steps_cons ?_ ?_
            · rintro b a w' ⟨b0_, b4_, b9_, b13_, b19_, b27_, b34_, s2_, s5_, s11_, s14_, s21_, s29_, s36_, m0_, m4_, m9_, m13_, m19_, m27_, m34_, ha, Q_HW, Q_H0, Q_HS4, Q_HN0, Q_H2, Q_H5, Q_H9, Q_HS13, Q_HN9, Q_H11, Q_H14, Q_H19, Q_H21, Q_H27, Q_H29, Q_H34, Q_H36, Q_X0_, Q_X4_, Q_X9_, Q_X13_, Q_X19_, Q_X27_, Q_X34_⟩ hb_ hon hoff
              refine ⟨_, rfl, fun K hK => ?_⟩
              have e9 : a.tmps[9]? = some (.pointer (some ⟨P9, 0, none⟩)) := by rw [ha]; exact (putSel_off rfl).trans rfl
              replace ha := Aside0.mk ha
              have HW := Aside0.mk Q_HW
              have q0 := cells_at HW.out (blk_cell HQ9.out 0)
              have q1 := cells_at HW.out (blk_cell HQ9.out 1)
              have q2 := cells_at HW.out (blk_cell HQ9.out 2)
              have q3 := cells_at HW.out (blk_cell HQ9.out 3)
              refine value_ (w1 := w') (v := .agg #[.int .i64 xf, .int .i64 xt, .int .i64 xc, .int .i64 xs]) (by rfl) rfl ?_ ?_
              · go_simp
                (try simp only [i64_w])
                try rfl
              refine hK.out _ _ ⟨b0_, b4_, b9_, b13_, b19_, b27_, b34_, s2_, s5_, s11_, s14_, s21_, s29_, s36_, m0_, m4_, m9_, m13_, m19_, m27_, m34_, (by rw [ha.out]; exact putSel_upk 2 hb_ rfl rfl rfl), Q_HW, Q_H0, fun h0_ _ => absurd ((hoff 4 (by kernel_rfl)).symm.trans h0_) (by decide), fun _ h1_ _ => absurd ((hoff 4 (by kernel_rfl)).symm.trans h1_) (by decide), Q_H2, fun h0_ _ => absurd ((hoff 5 (by kernel_rfl)).symm.trans h0_) (by decide), fun h0_ _ => absurd ((hoff 9 (by kernel_rfl)).symm.trans h0_) (by decide), fun h0_ _ => absurd ((hoff 13 (by kernel_rfl)).symm.trans h0_) (by decide), fun h0_ _ _ => absurd ((hoff 9 (by kernel_rfl)).symm.trans h0_) (by decide), fun h0_ _ => absurd ((hoff 11 (by kernel_rfl)).symm.trans h0_) (by decide), fun h0_ _ => absurd ((hoff 14 (by kernel_rfl)).symm.trans h0_) (by decide), fun h0_ _ => absurd ((hoff 19 (by kernel_rfl)).symm.trans h0_) (by decide), fun h0_ _ => absurd ((hoff 21 (by kernel_rfl)).symm.trans h0_) (by decide), fun h0_ _ => absurd ((hoff 27 (by kernel_rfl)).symm.trans h0_) (by decide), fun h0_ _ => absurd ((hoff 29 (by kernel_rfl)).symm.trans h0_) (by decide), fun h0_ _ => absurd ((hoff 34 (by kernel_rfl)).symm.trans h0_) (by decide), fun h0_ _ => absurd ((hoff 36 (by kernel_rfl)).symm.trans h0_) (by decide), Q_X0_, fun h0_ => absurd ((hoff 4 (by kernel_rfl)).symm.trans h0_) (by decide), fun h0_ => absurd ((hoff 9 (by kernel_rfl)).symm.trans h0_) (by decide), fun h0_ => absurd ((hoff 13 (by kernel_rfl)).symm.trans h0_) (by decide), fun h0_ => absurd ((hoff 19 (by kernel_rfl)).symm.trans h0_) (by decide), fun h0_ => absurd ((hoff 27 (by kernel_rfl)).symm.trans h0_) (by decide), fun h0_ => absurd ((hoff 34 (by kernel_rfl)).symm.trans h0_) (by decide)⟩
            refine steps_cons ?_ ?_
            · rintro b a w' ⟨b0_, b4_, b9_, b13_, b19_, b27_, b34_, s2_, s5_, s11_, s14_, s21_, s29_, s36_, m0_, m4_, m9_, m13_, m19_, m27_, m34_, ha, Q_HW, Q_H0, Q_HS4, Q_HN0, Q_H2, Q_H5, Q_H9, Q_HS13, Q_HN9, Q_H11, Q_H14, Q_H19, Q_H21, Q_H27, Q_H29, Q_H34, Q_H36, Q_X0_, Q_X4_, Q_X9_, Q_X13_, Q_X19_, Q_X27_, Q_X34_⟩ hb_ hon hoff
              refine ⟨_, rfl, fun K hK => ?_⟩
              have e93 : a.tmps[93]? = some (.agg #[.int .i64 xf, .int .i64 xt, .int .i64 xc, .int .i64 xs]) := by rw [ha]; exact putSel_on (e := (3, 93, .agg #[.int .i64 xf, .int .i64 xt, .int .i64 xc, .int .i64 xs])) 2 rfl rfl (hon 3 (by kernel_rfl)) rfl
              replace ha := Aside0.mk ha
              have HW := Aside0.mk Q_HW
              refine value_ (w1 := w'.alloc (.cells #[.int .i64 xf, .int .i64 xt, .int .i64 xc, .int .i64 xs] 25)) (v := .slice (some ⟨w'.heap.size, 0, none⟩) 1 1) (by rfl) rfl (by go_simp) ?_
              refine hK.out _ _ ⟨b0_, w'.heap.size, b9_, b13_, b19_, b27_, b34_, s2_, s5_, s11_, s14_, s21_, s29_, s36_, m0_, (.slice (some ⟨w'.heap.size, 0, none⟩) 1 1), m9_, m13_, m19_, m27_, m34_, (by rw [ha.out]; exact putSel_upk 3 hb_ rfl rfl rfl), below_alloc HW.out _, fun h0_ h1_ => Kd.R_alloc (Q_H0 h0_ h1_) _, fun _ _ => blk_new w' _, fun _ _ _ => (Nat.ne_of_lt (Kd.R_lt (Q_H0 (by assumption) (by assumption)) _ rfl)), fun h0_ h1_ => Kd.R_alloc (Q_H2 h0_ h1_) _, fun h0_ _ => absurd ((hoff 5 (by kernel_rfl)).symm.trans h0_) (by decide), fun h0_ _ => absurd ((hoff 9 (by kernel_rfl)).symm.trans h0_) (by decide), fun h0_ _ => absurd ((hoff 13 (by kernel_rfl)).symm.trans h0_) (by decide), fun h0_ _ _ => absurd ((hoff 9 (by kernel_rfl)).symm.trans h0_) (by decide), fun h0_ _ => absurd ((hoff 11 (by kernel_rfl)).symm.trans h0_) (by decide), fun h0_ _ => absurd ((hoff 14 (by kernel_rfl)).symm.trans h0_) (by decide), fun h0_ _ => absurd ((hoff 19 (by kernel_rfl)).symm.trans h0_) (by decide), fun h0_ _ => absurd ((hoff 21 (by kernel_rfl)).symm.trans h0_) (by decide), fun h0_ _ => absurd ((hoff 27 (by kernel_rfl)).symm.trans h0_) (by decide), fun h0_ _ => absurd ((hoff 29 (by kernel_rfl)).symm.trans h0_) (by decide), fun h0_ _ => absurd ((hoff 34 (by kernel_rfl)).symm.trans h0_) (by decide), fun h0_ _ => absurd ((hoff 36 (by kernel_rfl)).symm.trans h0_) (by decide), Q_X0_, fun _ => rfl, fun h0_ => absurd ((hoff 9 (by kernel_rfl)).symm.trans h0_) (by decide), fun h0_ => absurd ((hoff 13 (by kernel_rfl)).symm.trans h0_) (by decide), fun h0_ => absurd ((hoff 19 (by kernel_rfl)).symm.trans h0_) (by decide), fun h0_ => absurd ((hoff 27 (by kernel_rfl)).symm.trans h0_) (by decide), fun h0_ => absurd ((hoff 34 (by kernel_rfl)).symm.trans h0_) (by decide)⟩
            refine steps_cons ?_ ?_
            · rintro b a w' ⟨b0_, b4_, b9_, b13_, b19_, b27_, b34_, s2_, s5_, s11_, s14_, s21_, s29_, s36_, m0_, m4_, m9_, m13_, m19_, m27_, m34_, ha, Q_HW, Q_H0, Q_HS4, Q_HN0, Q_H2, Q_H5, Q_H9, Q_HS13, Q_HN9, Q_H11, Q_H14, Q_H19, Q_H21, Q_H27, Q_H29, Q_H34, Q_H36, Q_X0_, Q_X4_, Q_X9_, Q_X13_, Q_X19_, Q_X27_, Q_X34_⟩ hb_ hon hoff
              refine ⟨_, rfl, fun K hK => ?_⟩
              have e92 : a.tmps[92]? = some (s2_) := by rw [ha]; exact putSel_on (e := (2, 92, s2_)) 1 rfl rfl (hon 2 (by kernel_rfl)) rfl
              have e94 : a.tmps[94]? = some (m4_) := by rw [ha]; exact putSel_on (e := (4, 94, m4_)) 3 rfl rfl (hon 4 (by kernel_rfl)) rfl
              rw [Q_X4_ (hon 4 (by kernel_rfl))] at e94
              replace ha := Aside0.mk ha
              have HW := Aside0.mk Q_HW
              have HS4 := Aside0.mk (Q_HS4 (hon 4 (by kernel_rfl)) hb_)
              have H2 := Aside0.mk (Q_H2 (hon 2 (by kernel_rfl)) hb_)
              refine cat_step kCr flatKM wd w' wd.heap.size (by rfl) (.tmp 92) (.tmp 94) 27 25 (.agg #[.int .i64 0, .int .i64 0, .int .i64 0, .int .i64 0]) 32 rfl Try.underlying27 infoCr rfl (by decide) (by omega) (s2_) (cs) ([(xf, xt, xc, xs)]) (some ⟨b4_, 0, none⟩) (1) (1) (eval_of e92) (eval_of e94) (H2.out) (C_flat_block (xs := [(xf, xt, xc, xs)]) HS4.out (by simp)) HW.out HW.out.size (by omega) ?_
              intro v1 w1 ho hb hg
              refine hK.out _ _ ⟨b0_, b4_, b9_, b13_, b19_, b27_, b34_, s2_, v1, s11_, s14_, s21_, s29_, s36_, m0_, m4_, m9_, m13_, m19_, m27_, m34_, (by rw [ha.out]; exact putSel_upk 4 hb_ rfl rfl rfl), hb, fun _ h1_ => absurd ((hon 2 (by kernel_rfl)).symm.trans h1_) (by decide), fun _ h1_ => absurd ((up_self b 5).symm.trans h1_) (by decide), fun _ _ h2_ => absurd ((hon 2 (by kernel_rfl)).symm.trans h2_) (by decide), fun _ h1_ => absurd ((up_self b 5).symm.trans h1_) (by decide), fun _ _ => ho, fun h0_ _ => absurd ((hoff 9 (by kernel_rfl)).symm.trans h0_) (by decide), fun h0_ _ => absurd ((hoff 13 (by kernel_rfl)).symm.trans h0_) (by decide), fun h0_ _ _ => absurd ((hoff 9 (by kernel_rfl)).symm.trans h0_) (by decide), fun h0_ _ => absurd ((hoff 11 (by kernel_rfl)).symm.trans h0_) (by decide), fun h0_ _ => absurd ((hoff 14 (by kernel_rfl)).symm.trans h0_) (by decide), fun h0_ _ => absurd ((hoff 19 (by kernel_rfl)).symm.trans h0_) (by decide), fun h0_ _ => absurd ((hoff 21 (by kernel_rfl)).symm.trans h0_) (by decide), fun h0_ _ => absurd ((hoff 27 (by kernel_rfl)).symm.trans h0_) (by decide), fun h0_ _ => absurd ((hoff 29 (by kernel_rfl)).symm.trans h0_) (by decide), fun h0_ _ => absurd ((hoff 34 (by kernel_rfl)).symm.trans h0_) (by decide), fun h0_ _ => absurd ((hoff 36 (by kernel_rfl)).symm.trans h0_) (by decide), Q_X0_, Q_X4_, fun h0_ => absurd ((hoff 9 (by kernel_rfl)).symm.trans h0_) (by decide), fun h0_ => absurd ((hoff 13 (by kernel_rfl)).symm.trans h0_) (by decide), fun h0_ => absurd ((hoff 19 (by kernel_rfl)).symm.trans h0_) (by decide), fun h0_ => absurd ((hoff 27 (by kernel_rfl)).symm.trans h0_) (by decide), fun h0_ => absurd ((hoff 34 (by kernel_rfl)).symm.trans h0_) (by decide)⟩
            refine steps_cons ?_ ?_
            · rintro b a w' ⟨b0_, b4_, b9_, b13_, b19_, b27_, b34_, s2_, s5_, s11_, s14_, s21_, s29_, s36_, m0_, m4_, m9_, m13_, m19_, m27_, m34_, ha, Q_HW, Q_H0, Q_HS4, Q_HN0, Q_H2, Q_H5, Q_H9, Q_HS13, Q_HN9, Q_H11, Q_H14, Q_H19, Q_H21, Q_H27, Q_H29, Q_H34, Q_H36, Q_X0_, Q_X4_, Q_X9_, Q_X13_, Q_X19_, Q_X27_, Q_X34_⟩ hb_ hon hoff
              refine ⟨_, rfl, fun K hK => ?_⟩
              have e95 : a.tmps[95]? = some (s5_) := by rw [ha]; exact putSel_on (e := (5, 95, s5_)) 4 rfl rfl (hon 5 (by kernel_rfl)) rfl
              replace ha := Aside0.mk ha
              have HW := Aside0.mk Q_HW
              have H5 := Aside0.mk (Q_H5 (hon 5 (by kernel_rfl)) hb_)
              refine goes_ Try.func9 (by kernel_rfl) rfl #[s5_] (by rfl) rfl rfl (by simp only [List.map_toArray, List.map_cons, List.map_nil, Act.eval, Array.getD_eq_getD_getElem?, Option.getD_some, e95]) ?_
              obtain ⟨aR, cR, hs, hcR, hCR⟩ := Kd.R_reads H5.out
              have hc := once_calls aR cR (cs ++ [(xf, xt, xc, xs)]) w' hCR HO1.out (by simp; omega)
              rw [← hs] at hc
              refine hc.mono ?_
              rintro e w2 ⟨he, hB⟩
              rw [HV1.out] at he
              subst he
              refine ⟨_, rfl, ?_⟩
              refine hK.out _ _ ⟨b0_, b4_, b9_, b13_, b19_, b27_, b34_, s2_, s5_, s11_, s14_, s21_, s29_, s36_, m0_, m4_, m9_, m13_, m19_, m27_, m34_, (by rw [ha.out]; exact putSel_upk 5 hb_ rfl rfl rfl), below_step HW.out hB, fun _ h1_ => absurd ((hon 2 (by kernel_rfl)).symm.trans h1_) (by decide), fun _ h1_ => absurd ((hon 5 (by kernel_rfl)).symm.trans h1_) (by decide), fun _ _ h2_ => absurd ((hon 2 (by kernel_rfl)).symm.trans h2_) (by decide), fun _ h1_ => absurd ((hon 5 (by kernel_rfl)).symm.trans h1_) (by decide), fun _ h1_ => absurd ((up_self b 6).symm.trans h1_) (by decide), fun h0_ _ => absurd ((hoff 9 (by kernel_rfl)).symm.trans h0_) (by decide), fun h0_ _ => absurd ((hoff 13 (by kernel_rfl)).symm.trans h0_) (by decide), fun h0_ _ _ => absurd ((hoff 9 (by kernel_rfl)).symm.trans h0_) (by decide), fun h0_ _ => absurd ((hoff 11 (by kernel_rfl)).symm.trans h0_) (by decide), fun h0_ _ => absurd ((hoff 14 (by kernel_rfl)).symm.trans h0_) (by decide), fun h0_ _ => absurd ((hoff 19 (by kernel_rfl)).symm.trans h0_) (by decide), fun h0_ _ => absurd ((hoff 21 (by kernel_rfl)).symm.trans h0_) (by decide), fun h0_ _ => absurd ((hoff 27 (by kernel_rfl)).symm.trans h0_) (by decide), fun h0_ _ => absurd ((hoff 29 (by kernel_rfl)).symm.trans h0_) (by decide), fun h0_ _ => absurd ((hoff 34 (by kernel_rfl)).symm.trans h0_) (by decide), fun h0_ _ => absurd ((hoff 36 (by kernel_rfl)).symm.trans h0_) (by decide), Q_X0_, Q_X4_, fun h0_ => absurd ((hoff 9 (by kernel_rfl)).symm.trans h0_) (by decide), fun h0_ => absurd ((hoff 13 (by kernel_rfl)).symm.trans h0_) (by decide), fun h0_ => absurd ((hoff 19 (by kernel_rfl)).symm.trans h0_) (by decide), fun h0_ => absurd ((hoff 27 (by kernel_rfl)).symm.trans h0_) (by decide), fun h0_ => absurd ((hoff 34 (by kernel_rfl)).symm.trans h0_) (by decide)⟩
            refine steps_cons ?_ ?_
            · rintro b a w' ⟨b0_, b4_, b9_, b13_, b19_, b27_, b34_, s2_, s5_, s11_, s14_, s21_, s29_, s36_, m0_, m4_, m9_, m13_, m19_, m27_, m34_, ha, Q_HW, Q_H0, Q_HS4, Q_HN0, Q_H2, Q_H5, Q_H9, Q_HS13, Q_HN9, Q_H11, Q_H14, Q_H19, Q_H21, Q_H27, Q_H29, Q_H34, Q_H36, Q_X0_, Q_X4_, Q_X9_, Q_X13_, Q_X19_, Q_X27_, Q_X34_⟩ hb_ hon hoff
              refine ⟨_, rfl, fun K hK => ?_⟩
              have e96 : a.tmps[96]? = some (.bool false) := by rw [ha]; exact putSel_on (e := (6, 96, .bool false)) 5 rfl rfl (hon 6 (by kernel_rfl)) rfl
              replace ha := Aside0.mk ha
              have HW := Aside0.mk Q_HW
              refine value_ (w1 := w') (v := .bool true) (by rfl) rfl ?_ ?_
              · go_simp
                (try simp only [i64_w])
                try rfl
              refine hK.out _ _ ⟨b0_, b4_, b9_, b13_, b19_, b27_, b34_, s2_, s5_, s11_, s14_, s21_, s29_, s36_, m0_, m4_, m9_, m13_, m19_, m27_, m34_, (by rw [ha.out]; exact putSel_upk 6 hb_ rfl rfl rfl), Q_HW, fun _ h1_ => absurd ((hon 2 (by kernel_rfl)).symm.trans h1_) (by decide), fun _ h1_ => absurd ((hon 5 (by kernel_rfl)).symm.trans h1_) (by decide), fun _ _ h2_ => absurd ((hon 2 (by kernel_rfl)).symm.trans h2_) (by decide), fun _ h1_ => absurd ((hon 5 (by kernel_rfl)).symm.trans h1_) (by decide), fun _ h1_ => absurd ((hon 6 (by kernel_rfl)).symm.trans h1_) (by decide), fun h0_ _ => absurd ((hoff 9 (by kernel_rfl)).symm.trans h0_) (by decide), fun h0_ _ => absurd ((hoff 13 (by kernel_rfl)).symm.trans h0_) (by decide), fun h0_ _ _ => absurd ((hoff 9 (by kernel_rfl)).symm.trans h0_) (by decide), fun h0_ _ => absurd ((hoff 11 (by kernel_rfl)).symm.trans h0_) (by decide), fun h0_ _ => absurd ((hoff 14 (by kernel_rfl)).symm.trans h0_) (by decide), fun h0_ _ => absurd ((hoff 19 (by kernel_rfl)).symm.trans h0_) (by decide), fun h0_ _ => absurd ((hoff 21 (by kernel_rfl)).symm.trans h0_) (by decide), fun h0_ _ => absurd ((hoff 27 (by kernel_rfl)).symm.trans h0_) (by decide), fun h0_ _ => absurd ((hoff 29 (by kernel_rfl)).symm.trans h0_) (by decide), fun h0_ _ => absurd ((hoff 34 (by kernel_rfl)).symm.trans h0_) (by decide), fun h0_ _ => absurd ((hoff 36 (by kernel_rfl)).symm.trans h0_) (by decide), Q_X0_, Q_X4_, fun h0_ => absurd ((hoff 9 (by kernel_rfl)).symm.trans h0_) (by decide), fun h0_ => absurd ((hoff 13 (by kernel_rfl)).symm.trans h0_) (by decide), fun h0_ => absurd ((hoff 19 (by kernel_rfl)).symm.trans h0_) (by decide), fun h0_ => absurd ((hoff 27 (by kernel_rfl)).symm.trans h0_) (by decide), fun h0_ => absurd ((hoff 34 (by kernel_rfl)).symm.trans h0_) (by decide)⟩
            refine steps_cons ?_ ?_
            · rintro b a w' ⟨b0_, b4_, b9_, b13_, b19_, b27_, b34_, s2_, s5_, s11_, s14_, s21_, s29_, s36_, m0_, m4_, m9_, m13_, m19_, m27_, m34_, ha, Q_HW, Q_H0, Q_HS4, Q_HN0, Q_H2, Q_H5, Q_H9, Q_HS13, Q_HN9, Q_H11, Q_H14, Q_H19, Q_H21, Q_H27, Q_H29, Q_H34, Q_H36, Q_X0_, Q_X4_, Q_X9_, Q_X13_, Q_X19_, Q_X27_, Q_X34_⟩ hb_ hon hoff
              refine ⟨_, rfl, fun K hK => ?_⟩
              have e97 : a.tmps[97]? = some (.bool true) := by rw [ha]; exact putSel_on (e := (7, 97, .bool true)) 6 rfl rfl (hon 7 (by kernel_rfl)) rfl
              replace ha := Aside0.mk ha
              have HW := Aside0.mk Q_HW
              refine value_ (w1 := w') (v := .bool true) (by rfl) rfl ?_ ?_
              · go_simp
                (try simp only [i64_w])
                try rfl
              refine hK.out _ _ ⟨b0_, b4_, b9_, b13_, b19_, b27_, b34_, s2_, s5_, s11_, s14_, s21_, s29_, s36_, m0_, m4_, m9_, m13_, m19_, m27_, m34_, (by rw [ha.out]; exact putSel_upk 7 hb_ rfl rfl rfl), Q_HW, fun _ h1_ => absurd ((hon 2 (by kernel_rfl)).symm.trans h1_) (by decide), fun _ h1_ => absurd ((hon 5 (by kernel_rfl)).symm.trans h1_) (by decide), fun _ _ h2_ => absurd ((hon 2 (by kernel_rfl)).symm.trans h2_) (by decide), fun _ h1_ => absurd ((hon 5 (by kernel_rfl)).symm.trans h1_) (by decide), fun _ h1_ => absurd ((hon 6 (by kernel_rfl)).symm.trans h1_) (by decide), fun h0_ _ => absurd ((hoff 9 (by kernel_rfl)).symm.trans h0_) (by decide), fun h0_ _ => absurd ((hoff 13 (by kernel_rfl)).symm.trans h0_) (by decide), fun h0_ _ _ => absurd ((hoff 9 (by kernel_rfl)).symm.trans h0_) (by decide), fun h0_ _ => absurd ((hoff 11 (by kernel_rfl)).symm.trans h0_) (by decide), fun h0_ _ => absurd ((hoff 14 (by kernel_rfl)).symm.trans h0_) (by decide), fun h0_ _ => absurd ((hoff 19 (by kernel_rfl)).symm.trans h0_) (by decide), fun h0_ _ => absurd ((hoff 21 (by kernel_rfl)).symm.trans h0_) (by decide), fun h0_ _ => absurd ((hoff 27 (by kernel_rfl)).symm.trans h0_) (by decide), fun h0_ _ => absurd ((hoff 29 (by kernel_rfl)).symm.trans h0_) (by decide), fun h0_ _ => absurd ((hoff 34 (by kernel_rfl)).symm.trans h0_) (by decide), fun h0_ _ => absurd ((hoff 36 (by kernel_rfl)).symm.trans h0_) (by decide), Q_X0_, Q_X4_, fun h0_ => absurd ((hoff 9 (by kernel_rfl)).symm.trans h0_) (by decide), fun h0_ => absurd ((hoff 13 (by kernel_rfl)).symm.trans h0_) (by decide), fun h0_ => absurd ((hoff 19 (by kernel_rfl)).symm.trans h0_) (by decide), fun h0_ => absurd ((hoff 27 (by kernel_rfl)).symm.trans h0_) (by decide), fun h0_ => absurd ((hoff 34 (by kernel_rfl)).symm.trans h0_) (by decide)⟩
            refine steps_cons ?_ ?_
            · rintro b a w' ⟨b0_, b4_, b9_, b13_, b19_, b27_, b34_, s2_, s5_, s11_, s14_, s21_, s29_, s36_, m0_, m4_, m9_, m13_, m19_, m27_, m34_, ha, Q_HW, Q_H0, Q_HS4, Q_HN0, Q_H2, Q_H5, Q_H9, Q_HS13, Q_HN9, Q_H11, Q_H14, Q_H19, Q_H21, Q_H27, Q_H29, Q_H34, Q_H36, Q_X0_, Q_X4_, Q_X9_, Q_X13_, Q_X19_, Q_X27_, Q_X34_⟩ hb_ hon hoff
              refine ⟨_, rfl, fun K hK => ?_⟩
              have e98 : a.tmps[98]? = some (.bool true) := by rw [ha]; exact putSel_on (e := (8, 98, .bool true)) 7 rfl rfl (hon 8 (by kernel_rfl)) rfl
              replace ha := Aside0.mk ha
              have HW := Aside0.mk Q_HW
              refine value_ (w1 := w'.alloc (.cells #[] 25)) (v := .slice (some ⟨w'.heap.size, 0, none⟩) 0 0) (wanted_on rfl rfl rfl e98) rfl (by go_simp) ?_
              refine hK.out _ _ ⟨b0_, b4_, w'.heap.size, b13_, b19_, b27_, b34_, s2_, s5_, s11_, s14_, s21_, s29_, s36_, m0_, m4_, (.slice (some ⟨w'.heap.size, 0, none⟩) 0 0), m13_, m19_, m27_, m34_, (by rw [ha.out]; exact putSel_upk 8 hb_ rfl rfl rfl), below_alloc HW.out _, fun _ h1_ => absurd ((hon 2 (by kernel_rfl)).symm.trans h1_) (by decide), fun _ h1_ => absurd ((hon 5 (by kernel_rfl)).symm.trans h1_) (by decide), fun _ _ h2_ => absurd ((hon 2 (by kernel_rfl)).symm.trans h2_) (by decide), fun _ h1_ => absurd ((hon 5 (by kernel_rfl)).symm.trans h1_) (by decide), fun _ h1_ => absurd ((hon 6 (by kernel_rfl)).symm.trans h1_) (by decide), fun _ _ => Kd.R_lower (own_emptyCr w') HW.out.size, fun h0_ h1_ => blk_alloc (Q_HS13 h0_ h1_) _, fun _ _ _ => (Nat.ne_of_gt (blk_lt (Q_HS13 (by assumption) (hoff 14 (by kernel_rfl))))), fun h0_ _ => absurd ((hoff 11 (by kernel_rfl)).symm.trans h0_) (by decide), fun h0_ _ => absurd ((hoff 14 (by kernel_rfl)).symm.trans h0_) (by decide), fun h0_ _ => absurd ((hoff 19 (by kernel_rfl)).symm.trans h0_) (by decide), fun h0_ _ => absurd ((hoff 21 (by kernel_rfl)).symm.trans h0_) (by decide), fun h0_ _ => absurd ((hoff 27 (by kernel_rfl)).symm.trans h0_) (by decide), fun h0_ _ => absurd ((hoff 29 (by kernel_rfl)).symm.trans h0_) (by decide), fun h0_ _ => absurd ((hoff 34 (by kernel_rfl)).symm.trans h0_) (by decide), fun h0_ _ => absurd ((hoff 36 (by kernel_rfl)).symm.trans h0_) (by decide), Q_X0_, Q_X4_, fun _ => rfl, Q_X13_, fun h0_ => absurd ((hoff 19 (by kernel_rfl)).symm.trans h0_) (by decide), fun h0_ => absurd ((hoff 27 (by kernel_rfl)).symm.trans h0_) (by decide), fun h0_ => absurd ((hoff 34 (by kernel_rfl)).symm.trans h0_) (by decide)⟩
            refine steps_cons ?_ ?_
            · rintro b a w' ⟨b0_, b4_, b9_, b13_, b19_, b27_, b34_, s2_, s5_, s11_, s14_, s21_, s29_, s36_, m0_, m4_, m9_, m13_, m19_, m27_, m34_, ha, Q_HW, Q_H0, Q_HS4, Q_HN0, Q_H2, Q_H5, Q_H9, Q_HS13, Q_HN9, Q_H11, Q_H14, Q_H19, Q_H21, Q_H27, Q_H29, Q_H34, Q_H36, Q_X0_, Q_X4_, Q_X9_, Q_X13_, Q_X19_, Q_X27_, Q_X34_⟩ hb_ hon hoff
              refine ⟨_, rfl, fun K hK => ?_⟩
              have e5 : a.tmps[5]? = some (.slice (some ad5) cs.length c5) := by rw [ha]; exact (putSel_off rfl).trans rfl
              have e98 : a.tmps[98]? = some (.bool true) := by rw [ha]; exact putSel_on (e := (8, 98, .bool true)) 7 rfl rfl (hon 8 (by kernel_rfl)) rfl
              replace ha := Aside0.mk ha
              have HW := Aside0.mk Q_HW
              refine value_ (w1 := w') (v := .slice (some ad5) cs.length c5) (wanted_on rfl rfl rfl (e98.trans (by first | rfl | (simp [*]; done)))) rfl ?_ ?_
              · go_simp
                (try simp only [i64_w])
                try rfl
              refine hK.out _ _ ⟨b0_, b4_, b9_, b13_, b19_, b27_, b34_, s2_, s5_, s11_, s14_, s21_, s29_, s36_, m0_, m4_, m9_, m13_, m19_, m27_, m34_, (by rw [ha.out]; exact putSel_upk 9 hb_ rfl rfl rfl), Q_HW, fun _ h1_ => absurd ((hon 2 (by kernel_rfl)).symm.trans h1_) (by decide), fun _ h1_ => absurd ((hon 5 (by kernel_rfl)).symm.trans h1_) (by decide), fun _ _ h2_ => absurd ((hon 2 (by kernel_rfl)).symm.trans h2_) (by decide), fun _ h1_ => absurd ((hon 5 (by kernel_rfl)).symm.trans h1_) (by decide), fun _ h1_ => absurd ((hon 6 (by kernel_rfl)).symm.trans h1_) (by decide), Q_H9, Q_HS13, Q_HN9, fun h0_ _ => absurd ((hoff 11 (by kernel_rfl)).symm.trans h0_) (by decide), fun h0_ _ => absurd ((hoff 14 (by kernel_rfl)).symm.trans h0_) (by decide), fun h0_ _ => absurd ((hoff 19 (by kernel_rfl)).symm.trans h0_) (by decide), fun h0_ _ => absurd ((hoff 21 (by kernel_rfl)).symm.trans h0_) (by decide), fun h0_ _ => absurd ((hoff 27 (by kernel_rfl)).symm.trans h0_) (by decide), fun h0_ _ => absurd ((hoff 29 (by kernel_rfl)).symm.trans h0_) (by decide), fun h0_ _ => absurd ((hoff 34 (by kernel_rfl)).symm.trans h0_) (by decide), fun h0_ _ => absurd ((hoff 36 (by kernel_rfl)).symm.trans h0_) (by decide), Q_X0_, Q_X4_, Q_X9_, Q_X13_, fun h0_ => absurd ((hoff 19 (by kernel_rfl)).symm.trans h0_) (by decide), fun h0_ => absurd ((hoff 27 (by kernel_rfl)).symm.trans h0_) (by decide), fun h0_ => absurd ((hoff 34 (by kernel_rfl)).symm.trans h0_) (by decide)⟩
            refine steps_cons ?_ ?_
            · rintro b a w' ⟨b0_, b4_, b9_, b13_, b19_, b27_, b34_, s2_, s5_, s11_, s14_, s21_, s29_, s36_, m0_, m4_, m9_, m13_, m19_, m27_, m34_, ha, Q_HW, Q_H0, Q_HS4, Q_HN0, Q_H2, Q_H5, Q_H9, Q_HS13, Q_HN9, Q_H11, Q_H14, Q_H19, Q_H21, Q_H27, Q_H29, Q_H34, Q_H36, Q_X0_, Q_X4_, Q_X9_, Q_X13_, Q_X19_, Q_X27_, Q_X34_⟩ hb_ hon hoff
              refine ⟨_, rfl, fun K hK => ?_⟩
              have e99 : a.tmps[99]? = some (m9_) := by rw [ha]; exact putSel_on (e := (9, 99, m9_)) 8 rfl rfl (hon 9 (by kernel_rfl)) rfl
              rw [Q_X9_ (hon 9 (by kernel_rfl))] at e99
              have e100 : a.tmps[100]? = some (.slice (some ad5) cs.length c5) := by rw [ha]; exact putSel_on (e := (10, 100, .slice (some ad5) cs.length c5)) 9 rfl rfl (hon 10 (by kernel_rfl)) rfl
              have e98 : a.tmps[98]? = some (.bool true) := by rw [ha]; exact putSel_on (e := (8, 98, .bool true)) 7 rfl rfl (hon 8 (by kernel_rfl)) rfl
              replace ha := Aside0.mk ha
              have HW := Aside0.mk Q_HW
              have H9 := Aside0.mk (Q_H9 (hon 9 (by kernel_rfl)) hb_)
              refine cat_step kCr flatKM wd w' wd.heap.size (wanted_on rfl rfl rfl e98) (.tmp 99) (.tmp 100) 27 25 (.agg #[.int .i64 0, .int .i64 0, .int .i64 0, .int .i64 0]) 32 rfl Try.underlying27 infoCr rfl (by decide) (by omega) (.slice (some ⟨b9_, 0, none⟩) 0 0) ([]) (cs) (some ad5) (cs.length) (c5) (eval_of e99) (eval_of e100) (H9.out) (Kd.C_below HC5.out HW.out) HW.out HW.out.size (by simp; omega) ?_
              intro v1 w1 ho hb hg
              rw [List.nil_append] at ho
              refine hK.out _ _ ⟨b0_, b4_, b9_, b13_, b19_, b27_, b34_, s2_, s5_, v1, s14_, s21_, s29_, s36_, m0_, m4_, m9_, m13_, m19_, m27_, m34_, (by rw [ha.out]; exact putSel_upk 10 hb_ rfl rfl rfl), hb, fun _ h1_ => absurd ((hon 2 (by kernel_rfl)).symm.trans h1_) (by decide), fun _ h1_ => absurd ((hon 5 (by kernel_rfl)).symm.trans h1_) (by decide), fun _ _ h2_ => absurd ((hon 2 (by kernel_rfl)).symm.trans h2_) (by decide), fun _ h1_ => absurd ((hon 5 (by kernel_rfl)).symm.trans h1_) (by decide), fun _ h1_ => absurd ((hon 6 (by kernel_rfl)).symm.trans h1_) (by decide), fun _ h1_ => absurd ((up_self b 11).symm.trans h1_) (by decide), fun h0_ h1_ => blk_grown (Q_HS13 h0_ h1_) hg (own_ne (Q_HN9 (hon 9 (by kernel_rfl)) h0_ hb_)), fun _ _ h2_ => absurd ((up_self b 11).symm.trans h2_) (by decide), fun _ _ => ho, fun h0_ _ => absurd ((hoff 14 (by kernel_rfl)).symm.trans h0_) (by decide), fun h0_ _ => absurd ((hoff 19 (by kernel_rfl)).symm.trans h0_) (by decide), fun h0_ _ => absurd ((hoff 21 (by kernel_rfl)).symm.trans h0_) (by decide), fun h0_ _ => absurd ((hoff 27 (by kernel_rfl)).symm.trans h0_) (by decide), fun h0_ _ => absurd ((hoff 29 (by kernel_rfl)).symm.trans h0_) (by decide), fun h0_ _ => absurd ((hoff 34 (by kernel_rfl)).symm.trans h0_) (by decide), fun h0_ _ => absurd ((hoff 36 (by kernel_rfl)).symm.trans h0_) (by decide), Q_X0_, Q_X4_, Q_X9_, Q_X13_, fun h0_ => absurd ((hoff 19 (by kernel_rfl)).symm.trans h0_) (by decide), fun h0_ => absurd ((hoff 27 (by kernel_rfl)).symm.trans h0_) (by decide), fun h0_ => absurd ((hoff 34 (by kernel_rfl)).symm.trans h0_) (by decide)⟩
            refine steps_cons ?_ ?_
            · rintro b a w' ⟨b0_, b4_, b9_, b13_, b19_, b27_, b34_, s2_, s5_, s11_, s14_, s21_, s29_, s36_, m0_, m4_, m9_, m13_, m19_, m27_, m34_, ha, Q_HW, Q_H0, Q_HS4, Q_HN0, Q_H2, Q_H5, Q_H9, Q_HS13, Q_HN9, Q_H11, Q_H14, Q_H19, Q_H21, Q_H27, Q_H29, Q_H34, Q_H36, Q_X0_, Q_X4_, Q_X9_, Q_X13_, Q_X19_, Q_X27_, Q_X34_⟩ hb_ hon hoff
              refine ⟨_, rfl, fun K hK => ?_⟩
              have e11 : a.tmps[11]? = some (.pointer (some ⟨wc.heap.size, 0, none⟩)) := by rw [ha]; exact (putSel_off rfl).trans rfl
              have e98 : a.tmps[98]? = some (.bool true) := by rw [ha]; exact putSel_on (e := (8, 98, .bool true)) 7 rfl rfl (hon 8 (by kernel_rfl)) rfl
              replace ha := Aside0.mk ha
              have HW := Aside0.mk Q_HW
              have q0 := cells_at HW.out (blk_cell HQ11.out 0)
              have q1 := cells_at HW.out (blk_cell HQ11.out 1)
              have q2 := cells_at HW.out (blk_cell HQ11.out 2)
              have q3 := cells_at HW.out (blk_cell HQ11.out 3)
              refine value_ (w1 := w') (v := .agg #[.int .i64 xt, .int .i64 xf, .int .i64 xc, .int .i64 xs]) (wanted_on rfl rfl rfl (e98.trans (by first | rfl | (simp [*]; done)))) rfl ?_ ?_
              · go_simp
                (try simp only [i64_w])
                try rfl
              refine hK.out _ _ ⟨b0_, b4_, b9_, b13_, b19_, b27_, b34_, s2_, s5_, s11_, s14_, s21_, s29_, s36_, m0_, m4_, m9_, m13_, m19_, m27_, m34_, (by rw [ha.out]; exact putSel_upk 11 hb_ rfl rfl rfl), Q_HW, fun _ h1_ => absurd ((hon 2 (by kernel_rfl)).symm.trans h1_) (by decide), fun _ h1_ => absurd ((hon 5 (by kernel_rfl)).symm.trans h1_) (by decide), fun _ _ h2_ => absurd ((hon 2 (by kernel_rfl)).symm.trans h2_) (by decide), fun _ h1_ => absurd ((hon 5 (by kernel_rfl)).symm.trans h1_) (by decide), fun _ h1_ => absurd ((hon 6 (by kernel_rfl)).symm.trans h1_) (by decide), Q_H9, fun h0_ _ => absurd ((hoff 13 (by kernel_rfl)).symm.trans h0_) (by decide), fun _ h1_ _ => absurd ((hoff 13 (by kernel_rfl)).symm.trans h1_) (by decide), Q_H11, fun h0_ _ => absurd ((hoff 14 (by kernel_rfl)).symm.trans h0_) (by decide), fun h0_ _ => absurd ((hoff 19 (by kernel_rfl)).symm.trans h0_) (by decide), fun h0_ _ => absurd ((hoff 21 (by kernel_rfl)).symm.trans h0_) (by decide), fun h0_ _ => absurd ((hoff 27 (by kernel_rfl)).symm.trans h0_) (by decide), fun h0_ _ => absurd ((hoff 29 (by kernel_rfl)).symm.trans h0_) (by decide), fun h0_ _ => absurd ((hoff 34 (by kernel_rfl)).symm.trans h0_) (by decide), fun h0_ _ => absurd ((hoff 36 (by kernel_rfl)).symm.trans h0_) (by decide), Q_X0_, Q_X4_, Q_X9_, fun h0_ => absurd ((hoff 13 (by kernel_rfl)).symm.trans h0_) (by decide), fun h0_ => absurd ((hoff 19 (by kernel_rfl)).symm.trans h0_) (by decide), fun h0_ => absurd ((hoff 27 (by kernel_rfl)).symm.trans h0_) (by decide), fun h0_ => absurd ((hoff 34 (by kernel_rfl)).symm.trans h0_) (by decide)⟩
            refine steps_cons ?_ ?_
            · rintro b a w' ⟨b0_, b4_, b9_, b13_, b19_, b27_, b34_, s2_, s5_, s11_, s14_, s21_, s29_, s36_, m0_, m4_, m9_, m13_, m19_, m27_, m34_, ha, Q_HW, Q_H0, Q_HS4, Q_HN0, Q_H2, Q_H5, Q_H9, Q_HS13, Q_HN9, Q_H11, Q_H14, Q_H19, Q_H21, Q_H27, Q_H29, Q_H34, Q_H36, Q_X0_, Q_X4_, Q_X9_, Q_X13_, Q_X19_, Q_X27_, Q_X34_⟩ hb_ hon hoff
              refine ⟨_, rfl, fun K hK => ?_⟩
              have e102 : a.tmps[102]? = some (.agg #[.int .i64 xt, .int .i64 xf, .int .i64 xc, .int .i64 xs]) := by rw [ha]; exact putSel_on (e := (12, 102, .agg #[.int .i64 xt, .int .i64 xf, .int .i64 xc, .int .i64 xs])) 11 rfl rfl (hon 12 (by kernel_rfl)) rfl
              have e98 : a.tmps[98]? = some (.bool true) := by rw [ha]; exact putSel_on (e := (8, 98, .bool true)) 7 rfl rfl (hon 8 (by kernel_rfl)) rfl
              replace ha := Aside0.mk ha
              have HW := Aside0.mk Q_HW
              refine value_ (w1 := w'.alloc (.cells #[.int .i64 xt, .int .i64 xf, .int .i64 xc, .int .i64 xs] 25)) (v := .slice (some ⟨w'.heap.size, 0, none⟩) 1 1) (wanted_on rfl rfl rfl e98) rfl (by go_simp) ?_
              refine hK.out _ _ ⟨b0_, b4_, b9_, w'.heap.size, b19_, b27_, b34_, s2_, s5_, s11_, s14_, s21_, s29_, s36_, m0_, m4_, m9_, (.slice (some ⟨w'.heap.size, 0, none⟩) 1 1), m19_, m27_, m34_, (by rw [ha.out]; exact putSel_upk 12 hb_ rfl rfl rfl), below_alloc HW.out _, fun _ h1_ => absurd ((hon 2 (by kernel_rfl)).symm.trans h1_) (by decide), fun _ h1_ => absurd ((hon 5 (by kernel_rfl)).symm.trans h1_) (by decide), fun _ _ h2_ => absurd ((hon 2 (by kernel_rfl)).symm.trans h2_) (by decide), fun _ h1_ => absurd ((hon 5 (by kernel_rfl)).symm.trans h1_) (by decide), fun _ h1_ => absurd ((hon 6 (by kernel_rfl)).symm.trans h1_) (by decide), fun h0_ h1_ => Kd.R_alloc (Q_H9 h0_ h1_) _, fun _ _ => blk_new w' _, fun _ _ _ => (Nat.ne_of_lt (Kd.R_lt (Q_H9 (by assumption) (by assumption)) _ rfl)), fun h0_ h1_ => Kd.R_alloc (Q_H11 h0_ h1_) _, fun h0_ _ => absurd ((hoff 14 (by kernel_rfl)).symm.trans h0_) (by decide), fun h0_ _ => absurd ((hoff 19 (by kernel_rfl)).symm.trans h0_) (by decide), fun h0_ _ => absurd ((hoff 21 (by kernel_rfl)).symm.trans h0_) (by decide), fun h0_ _ => absurd ((hoff 27 (by kernel_rfl)).symm.trans h0_) (by decide), fun h0_ _ => absurd ((hoff 29 (by kernel_rfl)).symm.trans h0_) (by decide), fun h0_ _ => absurd ((hoff 34 (by kernel_rfl)).symm.trans h0_) (by decide), fun h0_ _ => absurd ((hoff 36 (by kernel_rfl)).symm.trans h0_) (by decide), Q_X0_, Q_X4_, Q_X9_, fun _ => rfl, fun h0_ => absurd ((hoff 19 (by kernel_rfl)).symm.trans h0_) (by decide), fun h0_ => absurd ((hoff 27 (by kernel_rfl)).symm.trans h0_) (by decide), fun h0_ => absurd ((hoff 34 (by kernel_rfl)).symm.trans h0_) (by decide)⟩
            refine steps_cons ?_ ?_
            · rintro b a w' ⟨b0_, b4_, b9_, b13_, b19_, b27_, b34_, s2_, s5_, s11_, s14_, s21_, s29_, s36_, m0_, m4_, m9_, m13_, m19_, m27_, m34_, ha, Q_HW, Q_H0, Q_HS4, Q_HN0, Q_H2, Q_H5, Q_H9, Q_HS13, Q_HN9, Q_H11, Q_H14, Q_H19, Q_H21, Q_H27, Q_H29, Q_H34, Q_H36, Q_X0_, Q_X4_, Q_X9_, Q_X13_, Q_X19_, Q_X27_, Q_X34_⟩ hb_ hon hoff
              refine ⟨_, rfl, fun K hK => ?_⟩
              have e101 : a.tmps[101]? = some (s11_) := by rw [ha]; exact putSel_on (e := (11, 101, s11_)) 10 rfl rfl (hon 11 (by kernel_rfl)) rfl
              have e103 : a.tmps[103]? = some (m13_) := by rw [ha]; exact putSel_on (e := (13, 103, m13_)) 12 rfl rfl (hon 13 (by kernel_rfl)) rfl
              rw [Q_X13_ (hon 13 (by kernel_rfl))] at e103
              have e98 : a.tmps[98]? = some (.bool true) := by rw [ha]; exact putSel_on (e := (8, 98, .bool true)) 7 rfl rfl (hon 8 (by kernel_rfl)) rfl
              replace ha := Aside0.mk ha
              have HW := Aside0.mk Q_HW
              have HS13 := Aside0.mk (Q_HS13 (hon 13 (by kernel_rfl)) hb_)
              have H11 := Aside0.mk (Q_H11 (hon 11 (by kernel_rfl)) hb_)
              refine cat_step kCr flatKM wd w' wd.heap.size (wanted_on rfl rfl rfl e98) (.tmp 101) (.tmp 103) 27 25 (.agg #[.int .i64 0, .int .i64 0, .int .i64 0, .int .i64 0]) 32 rfl Try.underlying27 infoCr rfl (by decide) (by omega) (s11_) (cs) ([(xt, xf, xc, xs)]) (some ⟨b13_, 0, none⟩) (1) (1) (eval_of e101) (eval_of e103) (H11.out) (C_flat_block (xs := [(xt, xf, xc, xs)]) HS13.out (by simp)) HW.out HW.out.size (by omega) ?_
              intro v1 w1 ho hb hg
              refine hK.out _ _ ⟨b0_, b4_, b9_, b13_, b19_, b27_, b34_, s2_, s5_, s11_, v1, s21_, s29_, s36_, m0_, m4_, m9_, m13_, m19_, m27_, m34_, (by rw [ha.out]; exact putSel_upk 13 hb_ rfl rfl rfl), hb, fun _ h1_ => absurd ((hon 2 (by kernel_rfl)).symm.trans h1_) (by decide), fun _ h1_ => absurd ((hon 5 (by kernel_rfl)).symm.trans h1_) (by decide), fun _ _ h2_ => absurd ((hon 2 (by kernel_rfl)).symm.trans h2_) (by decide), fun _ h1_ => absurd ((hon 5 (by kernel_rfl)).symm.trans h1_) (by decide), fun _ h1_ => absurd ((hon 6 (by kernel_rfl)).symm.trans h1_) (by decide), fun _ h1_ => absurd ((hon 11 (by kernel_rfl)).symm.trans h1_) (by decide), fun _ h1_ => absurd ((up_self b 14).symm.trans h1_) (by decide), fun _ _ h2_ => absurd ((hon 11 (by kernel_rfl)).symm.trans h2_) (by decide), fun _ h1_ => absurd ((up_self b 14).symm.trans h1_) (by decide), fun _ _ => ho, fun h0_ _ => absurd ((hoff 19 (by kernel_rfl)).symm.trans h0_) (by decide), fun h0_ _ => absurd ((hoff 21 (by kernel_rfl)).symm.trans h0_) (by decide), fun h0_ _ => absurd ((hoff 27 (by kernel_rfl)).symm.trans h0_) (by decide), fun h0_ _ => absurd ((hoff 29 (by kernel_rfl)).symm.trans h0_) (by decide), fun h0_ _ => absurd ((hoff 34 (by kernel_rfl)).symm.trans h0_) (by decide), fun h0_ _ => absurd ((hoff 36 (by kernel_rfl)).symm.trans h0_) (by decide), Q_X0_, Q_X4_, Q_X9_, Q_X13_, fun h0_ => absurd ((hoff 19 (by kernel_rfl)).symm.trans h0_) (by decide), fun h0_ => absurd ((hoff 27 (by kernel_rfl)).symm.trans h0_) (by decide), fun h0_ => absurd ((hoff 34 (by kernel_rfl)).symm.trans h0_) (by decide)⟩
            refine steps_cons ?_ ?_
            · rintro b a w' ⟨b0_, b4_, b9_, b13_, b19_, b27_, b34_, s2_, s5_, s11_, s14_, s21_, s29_, s36_, m0_, m4_, m9_, m13_, m19_, m27_, m34_, ha, Q_HW, Q_H0, Q_HS4, Q_HN0, Q_H2, Q_H5, Q_H9, Q_HS13, Q_HN9, Q_H11, Q_H14, Q_H19, Q_H21, Q_H27, Q_H29, Q_H34, Q_H36, Q_X0_, Q_X4_, Q_X9_, Q_X13_, Q_X19_, Q_X27_, Q_X34_⟩ hb_ hon hoff
              refine ⟨_, rfl, fun K hK => ?_⟩
              have e104 : a.tmps[104]? = some (s14_) := by rw [ha]; exact putSel_on (e := (14, 104, s14_)) 13 rfl rfl (hon 14 (by kernel_rfl)) rfl
              have e98 : a.tmps[98]? = some (.bool true) := by rw [ha]; exact putSel_on (e := (8, 98, .bool true)) 7 rfl rfl (hon 8 (by kernel_rfl)) rfl
              replace ha := Aside0.mk ha
              have HW := Aside0.mk Q_HW
              have H14 := Aside0.mk (Q_H14 (hon 14 (by kernel_rfl)) hb_)
              refine goes_ Try.func9 (by kernel_rfl) rfl #[s14_] (wanted_on rfl rfl rfl e98) rfl rfl (by simp only [List.map_toArray, List.map_cons, List.map_nil, Act.eval, Array.getD_eq_getD_getElem?, Option.getD_some, e104]) ?_
              obtain ⟨aR, cR, hs, hcR, hCR⟩ := Kd.R_reads H14.out
              have hc := once_calls aR cR (cs ++ [(xt, xf, xc, xs)]) w' hCR HO2.out (by simp; omega)
              rw [← hs] at hc
              refine hc.mono ?_
              rintro e w2 ⟨he, hB⟩
              rw [HV2.out] at he
              subst he
              refine ⟨_, rfl, ?_⟩
              refine hK.out _ _ ⟨b0_, b4_, b9_, b13_, b19_, b27_, b34_, s2_, s5_, s11_, s14_, s21_, s29_, s36_, m0_, m4_, m9_, m13_, m19_, m27_, m34_, (by rw [ha.out]; exact putSel_upk 14 hb_ rfl rfl rfl), below_step HW.out hB, fun _ h1_ => absurd ((hon 2 (by kernel_rfl)).symm.trans h1_) (by decide), fun _ h1_ => absurd ((hon 5 (by kernel_rfl)).symm.trans h1_) (by decide), fun _ _ h2_ => absurd ((hon 2 (by kernel_rfl)).symm.trans h2_) (by decide), fun _ h1_ => absurd ((hon 5 (by kernel_rfl)).symm.trans h1_) (by decide), fun _ h1_ => absurd ((hon 6 (by kernel_rfl)).symm.trans h1_) (by decide), fun _ h1_ => absurd ((hon 11 (by kernel_rfl)).symm.trans h1_) (by decide), fun _ h1_ => absurd ((hon 14 (by kernel_rfl)).symm.trans h1_) (by decide), fun _ _ h2_ => absurd ((hon 11 (by kernel_rfl)).symm.trans h2_) (by decide), fun _ h1_ => absurd ((hon 14 (by kernel_rfl)).symm.trans h1_) (by decide), fun _ h1_ => absurd ((up_self b 15).symm.trans h1_) (by decide), fun h0_ _ => absurd ((hoff 19 (by kernel_rfl)).symm.trans h0_) (by decide), fun h0_ _ => absurd ((hoff 21 (by kernel_rfl)).symm.trans h0_) (by decide), fun h0_ _ => absurd ((hoff 27 (by kernel_rfl)).symm.trans h0_) (by decide), fun h0_ _ => absurd ((hoff 29 (by kernel_rfl)).symm.trans h0_) (by decide), fun h0_ _ => absurd ((hoff 34 (by kernel_rfl)).symm.trans h0_) (by decide), fun h0_ _ => absurd ((hoff 36 (by kernel_rfl)).symm.trans h0_) (by decide), Q_X0_, Q_X4_, Q_X9_, Q_X13_, fun h0_ => absurd ((hoff 19 (by kernel_rfl)).symm.trans h0_) (by decide), fun h0_ => absurd ((hoff 27 (by kernel_rfl)).symm.trans h0_) (by decide), fun h0_ => absurd ((hoff 34 (by kernel_rfl)).symm.trans h0_) (by decide)⟩
            refine steps_cons ?_ ?_
            · rintro b a w' ⟨b0_, b4_, b9_, b13_, b19_, b27_, b34_, s2_, s5_, s11_, s14_, s21_, s29_, s36_, m0_, m4_, m9_, m13_, m19_, m27_, m34_, ha, Q_HW, Q_H0, Q_HS4, Q_HN0, Q_H2, Q_H5, Q_H9, Q_HS13, Q_HN9, Q_H11, Q_H14, Q_H19, Q_H21, Q_H27, Q_H29, Q_H34, Q_H36, Q_X0_, Q_X4_, Q_X9_, Q_X13_, Q_X19_, Q_X27_, Q_X34_⟩ hb_ hon hoff
              refine ⟨_, rfl, fun K hK => ?_⟩
              have e98 : a.tmps[98]? = some (.bool true) := by rw [ha]; exact putSel_on (e := (8, 98, .bool true)) 7 rfl rfl (hon 8 (by kernel_rfl)) rfl
              have e105 : a.tmps[105]? = some (.bool true) := by rw [ha]; exact putSel_on (e := (15, 105, .bool true)) 14 rfl rfl (hon 15 (by kernel_rfl)) rfl
              replace ha := Aside0.mk ha
              have HW := Aside0.mk Q_HW
              refine value_ (w1 := w') (v := .bool true) (by rfl) rfl ?_ ?_
              · go_simp
                (try simp only [i64_w])
                try rfl
              refine hK.out _ _ ⟨b0_, b4_, b9_, b13_, b19_, b27_, b34_, s2_, s5_, s11_, s14_, s21_, s29_, s36_, m0_, m4_, m9_, m13_, m19_, m27_, m34_, (by rw [ha.out]; exact putSel_upk 15 hb_ rfl rfl rfl), Q_HW, fun _ h1_ => absurd ((hon 2 (by kernel_rfl)).symm.trans h1_) (by decide), fun _ h1_ => absurd ((hon 5 (by kernel_rfl)).symm.trans h1_) (by decide), fun _ _ h2_ => absurd ((hon 2 (by kernel_rfl)).symm.trans h2_) (by decide), fun _ h1_ => absurd ((hon 5 (by kernel_rfl)).symm.trans h1_) (by decide), fun _ h1_ => absurd ((hon 6 (by kernel_rfl)).symm.trans h1_) (by decide), fun _ h1_ => absurd ((hon 11 (by kernel_rfl)).symm.trans h1_) (by decide), fun _ h1_ => absurd ((hon 14 (by kernel_rfl)).symm.trans h1_) (by decide), fun _ _ h2_ => absurd ((hon 11 (by kernel_rfl)).symm.trans h2_) (by decide), fun _ h1_ => absurd ((hon 14 (by kernel_rfl)).symm.trans h1_) (by decide), fun _ h1_ => absurd ((hon 15 (by kernel_rfl)).symm.trans h1_) (by decide), fun h0_ _ => absurd ((hoff 19 (by kernel_rfl)).symm.trans h0_) (by decide), fun h0_ _ => absurd ((hoff 21 (by kernel_rfl)).symm.trans h0_) (by decide), fun h0_ _ => absurd ((hoff 27 (by kernel_rfl)).symm.trans h0_) (by decide), fun h0_ _ => absurd ((hoff 29 (by kernel_rfl)).symm.trans h0_) (by decide), fun h0_ _ => absurd ((hoff 34 (by kernel_rfl)).symm.trans h0_) (by decide), fun h0_ _ => absurd ((hoff 36 (by kernel_rfl)).symm.trans h0_) (by decide), Q_X0_, Q_X4_, Q_X9_, Q_X13_, fun h0_ => absurd ((hoff 19 (by kernel_rfl)).symm.trans h0_) (by decide), fun h0_ => absurd ((hoff 27 (by kernel_rfl)).symm.trans h0_) (by decide), fun h0_ => absurd ((hoff 34 (by kernel_rfl)).symm.trans h0_) (by decide)⟩
            refine steps_cons ?_ ?_
            · rintro b a w' ⟨b0_, b4_, b9_, b13_, b19_, b27_, b34_, s2_, s5_, s11_, s14_, s21_, s29_, s36_, m0_, m4_, m9_, m13_, m19_, m27_, m34_, ha, Q_HW, Q_H0, Q_HS4, Q_HN0, Q_H2, Q_H5, Q_H9, Q_HS13, Q_HN9, Q_H11, Q_H14, Q_H19, Q_H21, Q_H27, Q_H29, Q_H34, Q_H36, Q_X0_, Q_X4_, Q_X9_, Q_X13_, Q_X19_, Q_X27_, Q_X34_⟩ hb_ hon hoff
              refine ⟨_, rfl, fun K hK => ?_⟩
              have e106 : a.tmps[106]? = some (.bool true) := by rw [ha]; exact putSel_on (e := (16, 106, .bool true)) 15 rfl rfl (hon 16 (by kernel_rfl)) rfl
              replace ha := Aside0.mk ha
              have HW := Aside0.mk Q_HW
              refine value_ (w1 := w') (v := .bool true) (by rfl) rfl ?_ ?_
              · go_simp
                (try simp only [i64_w])
                try rfl
              refine hK.out _ _ ⟨b0_, b4_, b9_, b13_, b19_, b27_, b34_, s2_, s5_, s11_, s14_, s21_, s29_, s36_, m0_, m4_, m9_, m13_, m19_, m27_, m34_, (by rw [ha.out]; exact putSel_upk 16 hb_ rfl rfl rfl), Q_HW, fun _ h1_ => absurd ((hon 2 (by kernel_rfl)).symm.trans h1_) (by decide), fun _ h1_ => absurd ((hon 5 (by kernel_rfl)).symm.trans h1_) (by decide), fun _ _ h2_ => absurd ((hon 2 (by kernel_rfl)).symm.trans h2_) (by decide), fun _ h1_ => absurd ((hon 5 (by kernel_rfl)).symm.trans h1_) (by decide), fun _ h1_ => absurd ((hon 6 (by kernel_rfl)).symm.trans h1_) (by decide), fun _ h1_ => absurd ((hon 11 (by kernel_rfl)).symm.trans h1_) (by decide), fun _ h1_ => absurd ((hon 14 (by kernel_rfl)).symm.trans h1_) (by decide), fun _ _ h2_ => absurd ((hon 11 (by kernel_rfl)).symm.trans h2_) (by decide), fun _ h1_ => absurd ((hon 14 (by kernel_rfl)).symm.trans h1_) (by decide), fun _ h1_ => absurd ((hon 15 (by kernel_rfl)).symm.trans h1_) (by decide), fun h0_ _ => absurd ((hoff 19 (by kernel_rfl)).symm.trans h0_) (by decide), fun h0_ _ => absurd ((hoff 21 (by kernel_rfl)).symm.trans h0_) (by decide), fun h0_ _ => absurd ((hoff 27 (by kernel_rfl)).symm.trans h0_) (by decide), fun h0_ _ => absurd ((hoff 29 (by kernel_rfl)).symm.trans h0_) (by decide), fun h0_ _ => absurd ((hoff 34 (by kernel_rfl)).symm.trans h0_) (by decide), fun h0_ _ => absurd ((hoff 36 (by kernel_rfl)).symm.trans h0_) (by decide), Q_X0_, Q_X4_, Q_X9_, Q_X13_, fun h0_ => absurd ((hoff 19 (by kernel_rfl)).symm.trans h0_) (by decide), fun h0_ => absurd ((hoff 27 (by kernel_rfl)).symm.trans h0_) (by decide), fun h0_ => absurd ((hoff 34 (by kernel_rfl)).symm.trans h0_) (by decide)⟩
            refine steps_cons ?_ ?_
            · rintro b a w' ⟨b0_, b4_, b9_, b13_, b19_, b27_, b34_, s2_, s5_, s11_, s14_, s21_, s29_, s36_, m0_, m4_, m9_, m13_, m19_, m27_, m34_, ha, Q_HW, Q_H0, Q_HS4, Q_HN0, Q_H2, Q_H5, Q_H9, Q_HS13, Q_HN9, Q_H11, Q_H14, Q_H19, Q_H21, Q_H27, Q_H29, Q_H34, Q_H36, Q_X0_, Q_X4_, Q_X9_, Q_X13_, Q_X19_, Q_X27_, Q_X34_⟩ hb_ hon hoff
              refine ⟨_, rfl, fun K hK => ?_⟩
              have e11 : a.tmps[11]? = some (.pointer (some ⟨wc.heap.size, 0, none⟩)) := by rw [ha]; exact (putSel_off rfl).trans rfl
              have e107 : a.tmps[107]? = some (.bool true) := by rw [ha]; exact putSel_on (e := (17, 107, .bool true)) 16 rfl rfl (hon 17 (by kernel_rfl)) rfl
              replace ha := Aside0.mk ha
              have HW := Aside0.mk Q_HW
              have q0 := cells_at HW.out (blk_cell HQ11.out 0)
              have q1 := cells_at HW.out (blk_cell HQ11.out 1)
              have q2 := cells_at HW.out (blk_cell HQ11.out 2)
              have q3 := cells_at HW.out (blk_cell HQ11.out 3)
              refine value_ (w1 := w') (v := .agg #[.int .i64 xt, .int .i64 xf, .int .i64 xc, .int .i64 xs]) (wanted_on rfl rfl rfl (e107.trans (by first | rfl | (simp [*]; done)))) rfl ?_ ?_
              · go_simp
                (try simp only [i64_w])
                try rfl
              refine hK.out _ _ ⟨b0_, b4_, b9_, b13_, b19_, b27_, b34_, s2_, s5_, s11_, s14_, s21_, s29_, s36_, m0_, m4_, m9_, m13_, m19_, m27_, m34_, (by rw [ha.out]; exact putSel_upk 17 hb_ rfl rfl rfl), Q_HW, fun _ h1_ => absurd ((hon 2 (by kernel_rfl)).symm.trans h1_) (by decide), fun _ h1_ => absurd ((hon 5 (by kernel_rfl)).symm.trans h1_) (by decide), fun _ _ h2_ => absurd ((hon 2 (by kernel_rfl)).symm.trans h2_) (by decide), fun _ h1_ => absurd ((hon 5 (by kernel_rfl)).symm.trans h1_) (by decide), fun _ h1_ => absurd ((hon 6 (by kernel_rfl)).symm.trans h1_) (by decide), fun _ h1_ => absurd ((hon 11 (by kernel_rfl)).symm.trans h1_) (by decide), fun _ h1_ => absurd ((hon 14 (by kernel_rfl)).symm.trans h1_) (by decide), fun _ _ h2_ => absurd ((hon 11 (by kernel_rfl)).symm.trans h2_) (by decide), fun _ h1_ => absurd ((hon 14 (by kernel_rfl)).symm.trans h1_) (by decide), fun _ h1_ => absurd ((hon 15 (by kernel_rfl)).symm.trans h1_) (by decide), fun h0_ _ => absurd ((hoff 19 (by kernel_rfl)).symm.trans h0_) (by decide), fun h0_ _ => absurd ((hoff 21 (by kernel_rfl)).symm.trans h0_) (by decide), fun h0_ _ => absurd ((hoff 27 (by kernel_rfl)).symm.trans h0_) (by decide), fun h0_ _ => absurd ((hoff 29 (by kernel_rfl)).symm.trans h0_) (by decide), fun h0_ _ => absurd ((hoff 34 (by kernel_rfl)).symm.trans h0_) (by decide), fun h0_ _ => absurd ((hoff 36 (by kernel_rfl)).symm.trans h0_) (by decide), Q_X0_, Q_X4_, Q_X9_, Q_X13_, fun h0_ => absurd ((hoff 19 (by kernel_rfl)).symm.trans h0_) (by decide), fun h0_ => absurd ((hoff 27 (by kernel_rfl)).symm.trans h0_) (by decide), fun h0_ => absurd ((hoff 34 (by kernel_rfl)).symm.trans h0_) (by decide)⟩
            refine steps_cons ?_ ?_
            · rintro b a w' ⟨b0_, b4_, b9_, b13_, b19_, b27_, b34_, s2_, s5_, s11_, s14_, s21_, s29_, s36_, m0_, m4_, m9_, m13_, m19_, m27_, m34_, ha, Q_HW, Q_H0, Q_HS4, Q_HN0, Q_H2, Q_H5, Q_H9, Q_HS13, Q_HN9, Q_H11, Q_H14, Q_H19, Q_H21, Q_H27, Q_H29, Q_H34, Q_H36, Q_X0_, Q_X4_, Q_X9_, Q_X13_, Q_X19_, Q_X27_, Q_X34_⟩ hb_ hon hoff
              refine ⟨_, rfl, fun K hK => ?_⟩
              have e108 : a.tmps[108]? = some (.agg #[.int .i64 xt, .int .i64 xf, .int .i64 xc, .int .i64 xs]) := by rw [ha]; exact putSel_on (e := (18, 108, .agg #[.int .i64 xt, .int .i64 xf, .int .i64 xc, .int .i64 xs])) 17 rfl rfl (hon 18 (by kernel_rfl)) rfl
              have e107 : a.tmps[107]? = some (.bool true) := by rw [ha]; exact putSel_on (e := (17, 107, .bool true)) 16 rfl rfl (hon 17 (by kernel_rfl)) rfl
              replace ha := Aside0.mk ha
              have HW := Aside0.mk Q_HW
              refine value_ (w1 := w'.alloc (.cells #[.int .i64 xt, .int .i64 xf, .int .i64 xc, .int .i64 xs] 25)) (v := .slice (some ⟨w'.heap.size, 0, none⟩) 1 1) (wanted_on rfl rfl rfl e107) rfl (by go_simp) ?_
              refine hK.out _ _ ⟨b0_, b4_, b9_, b13_, w'.heap.size, b27_, b34_, s2_, s5_, s11_, s14_, s21_, s29_, s36_, m0_, m4_, m9_, m13_, (.slice (some ⟨w'.heap.size, 0, none⟩) 1 1), m27_, m34_, (by rw [ha.out]; exact putSel_upk 18 hb_ rfl rfl rfl), below_alloc HW.out _, fun _ h1_ => absurd ((hon 2 (by kernel_rfl)).symm.trans h1_) (by decide), fun _ h1_ => absurd ((hon 5 (by kernel_rfl)).symm.trans h1_) (by decide), fun _ _ h2_ => absurd ((hon 2 (by kernel_rfl)).symm.trans h2_) (by decide), fun _ h1_ => absurd ((hon 5 (by kernel_rfl)).symm.trans h1_) (by decide), fun _ h1_ => absurd ((hon 6 (by kernel_rfl)).symm.trans h1_) (by decide), fun _ h1_ => absurd ((hon 11 (by kernel_rfl)).symm.trans h1_) (by decide), fun _ h1_ => absurd ((hon 14 (by kernel_rfl)).symm.trans h1_) (by decide), fun _ _ h2_ => absurd ((hon 11 (by kernel_rfl)).symm.trans h2_) (by decide), fun _ h1_ => absurd ((hon 14 (by kernel_rfl)).symm.trans h1_) (by decide), fun _ h1_ => absurd ((hon 15 (by kernel_rfl)).symm.trans h1_) (by decide), fun _ _ => Kd.R_lower (own_flat1 (xt, xf, xc, xs) w' 25) HW.out.size, fun h0_ _ => absurd ((hoff 21 (by kernel_rfl)).symm.trans h0_) (by decide), fun h0_ _ => absurd ((hoff 27 (by kernel_rfl)).symm.trans h0_) (by decide), fun h0_ _ => absurd ((hoff 29 (by kernel_rfl)).symm.trans h0_) (by decide), fun h0_ _ => absurd ((hoff 34 (by kernel_rfl)).symm.trans h0_) (by decide), fun h0_ _ => absurd ((hoff 36 (by kernel_rfl)).symm.trans h0_) (by decide), Q_X0_, Q_X4_, Q_X9_, Q_X13_, fun _ => rfl, fun h0_ => absurd ((hoff 27 (by kernel_rfl)).symm.trans h0_) (by decide), fun h0_ => absurd ((hoff 34 (by kernel_rfl)).symm.trans h0_) (by decide)⟩
            refine steps_cons ?_ ?_
            · rintro b a w' ⟨b0_, b4_, b9_, b13_, b19_, b27_, b34_, s2_, s5_, s11_, s14_, s21_, s29_, s36_, m0_, m4_, m9_, m13_, m19_, m27_, m34_, ha, Q_HW, Q_H0, Q_HS4, Q_HN0, Q_H2, Q_H5, Q_H9, Q_HS13, Q_HN9, Q_H11, Q_H14, Q_H19, Q_H21, Q_H27, Q_H29, Q_H34, Q_H36, Q_X0_, Q_X4_, Q_X9_, Q_X13_, Q_X19_, Q_X27_, Q_X34_⟩ hb_ hon hoff
              refine ⟨_, rfl, fun K hK => ?_⟩
              have e5 : a.tmps[5]? = some (.slice (some ad5) cs.length c5) := by rw [ha]; exact (putSel_off rfl).trans rfl
              have e107 : a.tmps[107]? = some (.bool true) := by rw [ha]; exact putSel_on (e := (17, 107, .bool true)) 16 rfl rfl (hon 17 (by kernel_rfl)) rfl
              replace ha := Aside0.mk ha
              have HW := Aside0.mk Q_HW
              refine value_ (w1 := w') (v := .slice (some ad5) cs.length c5) (wanted_on rfl rfl rfl (e107.trans (by first | rfl | (simp [*]; done)))) rfl ?_ ?_
              · go_simp
                (try simp only [i64_w])
                try rfl
              refine hK.out _ _ ⟨b0_, b4_, b9_, b13_, b19_, b27_, b34_, s2_, s5_, s11_, s14_, s21_, s29_, s36_, m0_, m4_, m9_, m13_, m19_, m27_, m34_, (by rw [ha.out]; exact putSel_upk 19 hb_ rfl rfl rfl), Q_HW, fun _ h1_ => absurd ((hon 2 (by kernel_rfl)).symm.trans h1_) (by decide), fun _ h1_ => absurd ((hon 5 (by kernel_rfl)).symm.trans h1_) (by decide), fun _ _ h2_ => absurd ((hon 2 (by kernel_rfl)).symm.trans h2_) (by decide), fun _ h1_ => absurd ((hon 5 (by kernel_rfl)).symm.trans h1_) (by decide), fun _ h1_ => absurd ((hon 6 (by kernel_rfl)).symm.trans h1_) (by decide), fun _ h1_ => absurd ((hon 11 (by kernel_rfl)).symm.trans h1_) (by decide), fun _ h1_ => absurd ((hon 14 (by kernel_rfl)).symm.trans h1_) (by decide), fun _ _ h2_ => absurd ((hon 11 (by kernel_rfl)).symm.trans h2_) (by decide), fun _ h1_ => absurd ((hon 14 (by kernel_rfl)).symm.trans h1_) (by decide), fun _ h1_ => absurd ((hon 15 (by kernel_rfl)).symm.trans h1_) (by decide), Q_H19, fun h0_ _ => absurd ((hoff 21 (by kernel_rfl)).symm.trans h0_) (by decide), fun h0_ _ => absurd ((hoff 27 (by kernel_rfl)).symm.trans h0_) (by decide), fun h0_ _ => absurd ((hoff 29 (by kernel_rfl)).symm.trans h0_) (by decide), fun h0_ _ => absurd ((hoff 34 (by kernel_rfl)).symm.trans h0_) (by decide), fun h0_ _ => absurd ((hoff 36 (by kernel_rfl)).symm.trans h0_) (by decide), Q_X0_, Q_X4_, Q_X9_, Q_X13_, Q_X19_, fun h0_ => absurd ((hoff 27 (by kernel_rfl)).symm.trans h0_) (by decide), fun h0_ => absurd ((hoff 34 (by kernel_rfl)).symm.trans h0_) (by decide)⟩
            refine steps_cons ?_ ?_
            · rintro b a w' ⟨b0_, b4_, b9_, b13_, b19_, b27_, b34_, s2_, s5_, s11_, s14_, s21_, s29_, s36_, m0_, m4_, m9_, m13_, m19_, m27_, m34_, ha, Q_HW, Q_H0, Q_HS4, Q_HN0, Q_H2, Q_H5, Q_H9, Q_HS13, Q_HN9, Q_H11, Q_H14, Q_H19, Q_H21, Q_H27, Q_H29, Q_H34, Q_H36, Q_X0_, Q_X4_, Q_X9_, Q_X13_, Q_X19_, Q_X27_, Q_X34_⟩ hb_ hon hoff
              refine ⟨_, rfl, fun K hK => ?_⟩
              have e109 : a.tmps[109]? = some (m19_) := by rw [ha]; exact putSel_on (e := (19, 109, m19_)) 18 rfl rfl (hon 19 (by kernel_rfl)) rfl
              rw [Q_X19_ (hon 19 (by kernel_rfl))] at e109
              have e110 : a.tmps[110]? = some (.slice (some ad5) cs.length c5) := by rw [ha]; exact putSel_on (e := (20, 110, .slice (some ad5) cs.length c5)) 19 rfl rfl (hon 20 (by kernel_rfl)) rfl
              have e107 : a.tmps[107]? = some (.bool true) := by rw [ha]; exact putSel_on (e := (17, 107, .bool true)) 16 rfl rfl (hon 17 (by kernel_rfl)) rfl
              replace ha := Aside0.mk ha
              have HW := Aside0.mk Q_HW
              have H19 := Aside0.mk (Q_H19 (hon 19 (by kernel_rfl)) hb_)
              refine cat_step kCr flatKM wd w' wd.heap.size (wanted_on rfl rfl rfl e107) (.tmp 109) (.tmp 110) 27 25 (.agg #[.int .i64 0, .int .i64 0, .int .i64 0, .int .i64 0]) 32 rfl Try.underlying27 infoCr rfl (by decide) (by omega) (.slice (some ⟨b19_, 0, none⟩) 1 1) ([(xt, xf, xc, xs)]) (cs) (some ad5) (cs.length) (c5) (eval_of e109) (eval_of e110) (H19.out) (Kd.C_below HC5.out HW.out) HW.out HW.out.size (by simp; omega) ?_
              intro v1 w1 ho hb hg
              refine hK.out _ _ ⟨b0_, b4_, b9_, b13_, b19_, b27_, b34_, s2_, s5_, s11_, s14_, v1, s29_, s36_, m0_, m4_, m9_, m13_, m19_, m27_, m34_, (by rw [ha.out]; exact putSel_upk 20 hb_ rfl rfl rfl), hb, fun _ h1_ => absurd ((hon 2 (by kernel_rfl)).symm.trans h1_) (by decide), fun _ h1_ => absurd ((hon 5 (by kernel_rfl)).symm.trans h1_) (by decide), fun _ _ h2_ => absurd ((hon 2 (by kernel_rfl)).symm.trans h2_) (by decide), fun _ h1_ => absurd ((hon 5 (by kernel_rfl)).symm.trans h1_) (by decide), fun _ h1_ => absurd ((hon 6 (by kernel_rfl)).symm.trans h1_) (by decide), fun _ h1_ => absurd ((hon 11 (by kernel_rfl)).symm.trans h1_) (by decide), fun _ h1_ => absurd ((hon 14 (by kernel_rfl)).symm.trans h1_) (by decide), fun _ _ h2_ => absurd ((hon 11 (by kernel_rfl)).symm.trans h2_) (by decide), fun _ h1_ => absurd ((hon 14 (by kernel_rfl)).symm.trans h1_) (by decide), fun _ h1_ => absurd ((hon 15 (by kernel_rfl)).symm.trans h1_) (by decide), fun _ h1_ => absurd ((up_self b 21).symm.trans h1_) (by decide), fun _ _ => ho, fun h0_ _ => absurd ((hoff 27 (by kernel_rfl)).symm.trans h0_) (by decide), fun h0_ _ => absurd ((hoff 29 (by kernel_rfl)).symm.trans h0_) (by decide), fun h0_ _ => absurd ((hoff 34 (by kernel_rfl)).symm.trans h0_) (by decide), fun h0_ _ => absurd ((hoff 36 (by kernel_rfl)).symm.trans h0_) (by decide), Q_X0_, Q_X4_, Q_X9_, Q_X13_, Q_X19_, fun h0_ => absurd ((hoff 27 (by kernel_rfl)).symm.trans h0_) (by decide), fun h0_ => absurd ((hoff 34 (by kernel_rfl)).symm.trans h0_) (by decide)⟩
            refine steps_cons ?_ ?_
            · rintro b a w' ⟨b0_, b4_, b9_, b13_, b19_, b27_, b34_, s2_, s5_, s11_, s14_, s21_, s29_, s36_, m0_, m4_, m9_, m13_, m19_, m27_, m34_, ha, Q_HW, Q_H0, Q_HS4, Q_HN0, Q_H2, Q_H5, Q_H9, Q_HS13, Q_HN9, Q_H11, Q_H14, Q_H19, Q_H21, Q_H27, Q_H29, Q_H34, Q_H36, Q_X0_, Q_X4_, Q_X9_, Q_X13_, Q_X19_, Q_X27_, Q_X34_⟩ hb_ hon hoff
              refine ⟨_, rfl, fun K hK => ?_⟩
              have e111 : a.tmps[111]? = some (s21_) := by rw [ha]; exact putSel_on (e := (21, 111, s21_)) 20 rfl rfl (hon 21 (by kernel_rfl)) rfl
              have e107 : a.tmps[107]? = some (.bool true) := by rw [ha]; exact putSel_on (e := (17, 107, .bool true)) 16 rfl rfl (hon 17 (by kernel_rfl)) rfl
              replace ha := Aside0.mk ha
              have HW := Aside0.mk Q_HW
              have H21 := Aside0.mk (Q_H21 (hon 21 (by kernel_rfl)) hb_)
              refine goes_ Try.func8 (by kernel_rfl) rfl #[s21_] (wanted_on rfl rfl rfl e107) rfl rfl (by simp only [List.map_toArray, List.map_cons, List.map_nil, Act.eval, Array.getD_eq_getD_getElem?, Option.getD_some, e111]) ?_
              obtain ⟨aR, cR, hs, hcR, hCR⟩ := Kd.R_reads H21.out
              have hc := oneway_calls aR cR ([(xt, xf, xc, xs)] ++ cs) w' hCR HO3.out (by simp; omega)
              rw [← hs] at hc
              refine hc.mono ?_
              rintro e w2 ⟨he, hB⟩
              rw [HV3.out] at he
              subst he
              refine ⟨_, rfl, ?_⟩
              refine hK.out _ _ ⟨b0_, b4_, b9_, b13_, b19_, b27_, b34_, s2_, s5_, s11_, s14_, s21_, s29_, s36_, m0_, m4_, m9_, m13_, m19_, m27_, m34_, (by rw [ha.out]; exact putSel_upk 21 hb_ rfl rfl rfl), below_step HW.out hB, fun _ h1_ => absurd ((hon 2 (by kernel_rfl)).symm.trans h1_) (by decide), fun _ h1_ => absurd ((hon 5 (by kernel_rfl)).symm.trans h1_) (by decide), fun _ _ h2_ => absurd ((hon 2 (by kernel_rfl)).symm.trans h2_) (by decide), fun _ h1_ => absurd ((hon 5 (by kernel_rfl)).symm.trans h1_) (by decide), fun _ h1_ => absurd ((hon 6 (by kernel_rfl)).symm.trans h1_) (by decide), fun _ h1_ => absurd ((hon 11 (by kernel_rfl)).symm.trans h1_) (by decide), fun _ h1_ => absurd ((hon 14 (by kernel_rfl)).symm.trans h1_) (by decide), fun _ _ h2_ => absurd ((hon 11 (by kernel_rfl)).symm.trans h2_) (by decide), fun _ h1_ => absurd ((hon 14 (by kernel_rfl)).symm.trans h1_) (by decide), fun _ h1_ => absurd ((hon 15 (by kernel_rfl)).symm.trans h1_) (by decide), fun _ h1_ => absurd ((hon 21 (by kernel_rfl)).symm.trans h1_) (by decide), fun _ h1_ => absurd ((up_self b 22).symm.trans h1_) (by decide), fun h0_ _ => absurd ((hoff 27 (by kernel_rfl)).symm.trans h0_) (by decide), fun h0_ _ => absurd ((hoff 29 (by kernel_rfl)).symm.trans h0_) (by decide), fun h0_ _ => absurd ((hoff 34 (by kernel_rfl)).symm.trans h0_) (by decide), fun h0_ _ => absurd ((hoff 36 (by kernel_rfl)).symm.trans h0_) (by decide), Q_X0_, Q_X4_, Q_X9_, Q_X13_, Q_X19_, fun h0_ => absurd ((hoff 27 (by kernel_rfl)).symm.trans h0_) (by decide), fun h0_ => absurd ((hoff 34 (by kernel_rfl)).symm.trans h0_) (by decide)⟩
            refine steps_cons ?_ ?_
            · rintro b a w' ⟨b0_, b4_, b9_, b13_, b19_, b27_, b34_, s2_, s5_, s11_, s14_, s21_, s29_, s36_, m0_, m4_, m9_, m13_, m19_, m27_, m34_, ha, Q_HW, Q_H0, Q_HS4, Q_HN0, Q_H2, Q_H5, Q_H9, Q_HS13, Q_HN9, Q_H11, Q_H14, Q_H19, Q_H21, Q_H27, Q_H29, Q_H34, Q_H36, Q_X0_, Q_X4_, Q_X9_, Q_X13_, Q_X19_, Q_X27_, Q_X34_⟩ hb_ hon hoff
              refine ⟨_, rfl, fun K hK => ?_⟩
              have e112 : a.tmps[112]? = some (.bool false) := by rw [ha]; exact putSel_on (e := (22, 112, .bool false)) 21 rfl rfl (hon 22 (by kernel_rfl)) rfl
              have e107 : a.tmps[107]? = some (.bool true) := by rw [ha]; exact putSel_on (e := (17, 107, .bool true)) 16 rfl rfl (hon 17 (by kernel_rfl)) rfl
              replace ha := Aside0.mk ha
              have HW := Aside0.mk Q_HW
              refine value_ (w1 := w') (v := .bool true) (wanted_on rfl rfl rfl (e107.trans (by first | rfl | (simp [*]; done)))) rfl ?_ ?_
              · go_simp
                (try simp only [i64_w])
                try rfl
              refine hK.out _ _ ⟨b0_, b4_, b9_, b13_, b19_, b27_, b34_, s2_, s5_, s11_, s14_, s21_, s29_, s36_, m0_, m4_, m9_, m13_, m19_, m27_, m34_, (by rw [ha.out]; exact putSel_upk 22 hb_ rfl rfl rfl), Q_HW, fun _ h1_ => absurd ((hon 2 (by kernel_rfl)).symm.trans h1_) (by decide), fun _ h1_ => absurd ((hon 5 (by kernel_rfl)).symm.trans h1_) (by decide), fun _ _ h2_ => absurd ((hon 2 (by kernel_rfl)).symm.trans h2_) (by decide), fun _ h1_ => absurd ((hon 5 (by kernel_rfl)).symm.trans h1_) (by decide), fun _ h1_ => absurd ((hon 6 (by kernel_rfl)).symm.trans h1_) (by decide), fun _ h1_ => absurd ((hon 11 (by kernel_rfl)).symm.trans h1_) (by decide), fun _ h1_ => absurd ((hon 14 (by kernel_rfl)).symm.trans h1_) (by decide), fun _ _ h2_ => absurd ((hon 11 (by kernel_rfl)).symm.trans h2_) (by decide), fun _ h1_ => absurd ((hon 14 (by kernel_rfl)).symm.trans h1_) (by decide), fun _ h1_ => absurd ((hon 15 (by kernel_rfl)).symm.trans h1_) (by decide), fun _ h1_ => absurd ((hon 21 (by kernel_rfl)).symm.trans h1_) (by decide), fun _ h1_ => absurd ((hon 22 (by kernel_rfl)).symm.trans h1_) (by decide), fun h0_ _ => absurd ((hoff 27 (by kernel_rfl)).symm.trans h0_) (by decide), fun h0_ _ => absurd ((hoff 29 (by kernel_rfl)).symm.trans h0_) (by decide), fun h0_ _ => absurd ((hoff 34 (by kernel_rfl)).symm.trans h0_) (by decide), fun h0_ _ => absurd ((hoff 36 (by kernel_rfl)).symm.trans h0_) (by decide), Q_X0_, Q_X4_, Q_X9_, Q_X13_, Q_X19_, fun h0_ => absurd ((hoff 27 (by kernel_rfl)).symm.trans h0_) (by decide), fun h0_ => absurd ((hoff 34 (by kernel_rfl)).symm.trans h0_) (by decide)⟩
            refine steps_cons ?_ ?_
            · rintro b a w' ⟨b0_, b4_, b9_, b13_, b19_, b27_, b34_, s2_, s5_, s11_, s14_, s21_, s29_, s36_, m0_, m4_, m9_, m13_, m19_, m27_, m34_, ha, Q_HW, Q_H0, Q_HS4, Q_HN0, Q_H2, Q_H5, Q_H9, Q_HS13, Q_HN9, Q_H11, Q_H14, Q_H19, Q_H21, Q_H27, Q_H29, Q_H34, Q_H36, Q_X0_, Q_X4_, Q_X9_, Q_X13_, Q_X19_, Q_X27_, Q_X34_⟩ hb_ hon hoff
              refine ⟨_, rfl, fun K hK => ?_⟩
              have e107 : a.tmps[107]? = some (.bool true) := by rw [ha]; exact putSel_on (e := (17, 107, .bool true)) 16 rfl rfl (hon 17 (by kernel_rfl)) rfl
              have e113 : a.tmps[113]? = some (.bool true) := by rw [ha]; exact putSel_on (e := (23, 113, .bool true)) 22 rfl rfl (hon 23 (by kernel_rfl)) rfl
              replace ha := Aside0.mk ha
              have HW := Aside0.mk Q_HW
              refine value_ (w1 := w') (v := .bool true) (by rfl) rfl ?_ ?_
              · go_simp
                (try simp only [i64_w])
                try rfl
              refine hK.out _ _ ⟨b0_, b4_, b9_, b13_, b19_, b27_, b34_, s2_, s5_, s11_, s14_, s21_, s29_, s36_, m0_, m4_, m9_, m13_, m19_, m27_, m34_, (by rw [ha.out]; exact putSel_upk 23 hb_ rfl rfl rfl), Q_HW, fun _ h1_ => absurd ((hon 2 (by kernel_rfl)).symm.trans h1_) (by decide), fun _ h1_ => absurd ((hon 5 (by kernel_rfl)).symm.trans h1_) (by decide), fun _ _ h2_ => absurd ((hon 2 (by kernel_rfl)).symm.trans h2_) (by decide), fun _ h1_ => absurd ((hon 5 (by kernel_rfl)).symm.trans h1_) (by decide), fun _ h1_ => absurd ((hon 6 (by kernel_rfl)).symm.trans h1_) (by decide), fun _ h1_ => absurd ((hon 11 (by kernel_rfl)).symm.trans h1_) (by decide), fun _ h1_ => absurd ((hon 14 (by kernel_rfl)).symm.trans h1_) (by decide), fun _ _ h2_ => absurd ((hon 11 (by kernel_rfl)).symm.trans h2_) (by decide), fun _ h1_ => absurd ((hon 14 (by kernel_rfl)).symm.trans h1_) (by decide), fun _ h1_ => absurd ((hon 15 (by kernel_rfl)).symm.trans h1_) (by decide), fun _ h1_ => absurd ((hon 21 (by kernel_rfl)).symm.trans h1_) (by decide), fun _ h1_ => absurd ((hon 22 (by kernel_rfl)).symm.trans h1_) (by decide), fun h0_ _ => absurd ((hoff 27 (by kernel_rfl)).symm.trans h0_) (by decide), fun h0_ _ => absurd ((hoff 29 (by kernel_rfl)).symm.trans h0_) (by decide), fun h0_ _ => absurd ((hoff 34 (by kernel_rfl)).symm.trans h0_) (by decide), fun h0_ _ => absurd ((hoff 36 (by kernel_rfl)).symm.trans h0_) (by decide), Q_X0_, Q_X4_, Q_X9_, Q_X13_, Q_X19_, fun h0_ => absurd ((hoff 27 (by kernel_rfl)).symm.trans h0_) (by decide), fun h0_ => absurd ((hoff 34 (by kernel_rfl)).symm.trans h0_) (by decide)⟩
            refine steps_cons ?_ ?_
            · rintro b a w' ⟨b0_, b4_, b9_, b13_, b19_, b27_, b34_, s2_, s5_, s11_, s14_, s21_, s29_, s36_, m0_, m4_, m9_, m13_, m19_, m27_, m34_, ha, Q_HW, Q_H0, Q_HS4, Q_HN0, Q_H2, Q_H5, Q_H9, Q_HS13, Q_HN9, Q_H11, Q_H14, Q_H19, Q_H21, Q_H27, Q_H29, Q_H34, Q_H36, Q_X0_, Q_X4_, Q_X9_, Q_X13_, Q_X19_, Q_X27_, Q_X34_⟩ hb_ hon hoff
              refine ⟨_, rfl, fun K hK => ?_⟩
              have e114 : a.tmps[114]? = some (.bool true) := by rw [ha]; exact putSel_on (e := (24, 114, .bool true)) 23 rfl rfl (hon 24 (by kernel_rfl)) rfl
              replace ha := Aside0.mk ha
              have HW := Aside0.mk Q_HW
              refine value_ (w1 := w') (v := .bool true) (by rfl) rfl ?_ ?_
              · go_simp
                (try simp only [i64_w])
                try rfl
              refine hK.out _ _ ⟨b0_, b4_, b9_, b13_, b19_, b27_, b34_, s2_, s5_, s11_, s14_, s21_, s29_, s36_, m0_, m4_, m9_, m13_, m19_, m27_, m34_, (by rw [ha.out]; exact putSel_upk 24 hb_ rfl rfl rfl), Q_HW, fun _ h1_ => absurd ((hon 2 (by kernel_rfl)).symm.trans h1_) (by decide), fun _ h1_ => absurd ((hon 5 (by kernel_rfl)).symm.trans h1_) (by decide), fun _ _ h2_ => absurd ((hon 2 (by kernel_rfl)).symm.trans h2_) (by decide), fun _ h1_ => absurd ((hon 5 (by kernel_rfl)).symm.trans h1_) (by decide), fun _ h1_ => absurd ((hon 6 (by kernel_rfl)).symm.trans h1_) (by decide), fun _ h1_ => absurd ((hon 11 (by kernel_rfl)).symm.trans h1_) (by decide), fun _ h1_ => absurd ((hon 14 (by kernel_rfl)).symm.trans h1_) (by decide), fun _ _ h2_ => absurd ((hon 11 (by kernel_rfl)).symm.trans h2_) (by decide), fun _ h1_ => absurd ((hon 14 (by kernel_rfl)).symm.trans h1_) (by decide), fun _ h1_ => absurd ((hon 15 (by kernel_rfl)).symm.trans h1_) (by decide), fun _ h1_ => absurd ((hon 21 (by kernel_rfl)).symm.trans h1_) (by decide), fun _ h1_ => absurd ((hon 22 (by kernel_rfl)).symm.trans h1_) (by decide), fun h0_ _ => absurd ((hoff 27 (by kernel_rfl)).symm.trans h0_) (by decide), fun h0_ _ => absurd ((hoff 29 (by kernel_rfl)).symm.trans h0_) (by decide), fun h0_ _ => absurd ((hoff 34 (by kernel_rfl)).symm.trans h0_) (by decide), fun h0_ _ => absurd ((hoff 36 (by kernel_rfl)).symm.trans h0_) (by decide), Q_X0_, Q_X4_, Q_X9_, Q_X13_, Q_X19_, fun h0_ => absurd ((hoff 27 (by kernel_rfl)).symm.trans h0_) (by decide), fun h0_ => absurd ((hoff 34 (by kernel_rfl)).symm.trans h0_) (by decide)⟩
            refine steps_cons ?_ ?_
            · rintro b a w' ⟨b0_, b4_, b9_, b13_, b19_, b27_, b34_, s2_, s5_, s11_, s14_, s21_, s29_, s36_, m0_, m4_, m9_, m13_, m19_, m27_, m34_, ha, Q_HW, Q_H0, Q_HS4, Q_HN0, Q_H2, Q_H5, Q_H9, Q_HS13, Q_HN9, Q_H11, Q_H14, Q_H19, Q_H21, Q_H27, Q_H29, Q_H34, Q_H36, Q_X0_, Q_X4_, Q_X9_, Q_X13_, Q_X19_, Q_X27_, Q_X34_⟩ hb_ hon hoff
              refine ⟨_, rfl, fun K hK => ?_⟩
              have e12 : a.tmps[12]? = some (.pointer (some ⟨wc.heap.size + 1, 0, none⟩)) := by rw [ha]; exact (putSel_off rfl).trans rfl
              have e115 : a.tmps[115]? = some (.bool true) := by rw [ha]; exact putSel_on (e := (25, 115, .bool true)) 24 rfl rfl (hon 25 (by kernel_rfl)) rfl
              replace ha := Aside0.mk ha
              have HW := Aside0.mk Q_HW
              have q0 := cells_at HW.out (blk_cell HQ12.out 0)
              have q1 := cells_at HW.out (blk_cell HQ12.out 1)
              have q2 := cells_at HW.out (blk_cell HQ12.out 2)
              have q3 := cells_at HW.out (blk_cell HQ12.out 3)
              refine value_ (w1 := w') (v := .agg #[.int .i64 xt, .int .i64 xf, .int .i64 xc, .int .i64 9]) (wanted_on rfl rfl rfl (e115.trans (by first | rfl | (simp [*]; done)))) rfl ?_ ?_
              · go_simp
                (try simp only [i64_w])
                try rfl
              refine hK.out _ _ ⟨b0_, b4_, b9_, b13_, b19_, b27_, b34_, s2_, s5_, s11_, s14_, s21_, s29_, s36_, m0_, m4_, m9_, m13_, m19_, m27_, m34_, (by rw [ha.out]; exact putSel_upk 25 hb_ rfl rfl rfl), Q_HW, fun _ h1_ => absurd ((hon 2 (by kernel_rfl)).symm.trans h1_) (by decide), fun _ h1_ => absurd ((hon 5 (by kernel_rfl)).symm.trans h1_) (by decide), fun _ _ h2_ => absurd ((hon 2 (by kernel_rfl)).symm.trans h2_) (by decide), fun _ h1_ => absurd ((hon 5 (by kernel_rfl)).symm.trans h1_) (by decide), fun _ h1_ => absurd ((hon 6 (by kernel_rfl)).symm.trans h1_) (by decide), fun _ h1_ => absurd ((hon 11 (by kernel_rfl)).symm.trans h1_) (by decide), fun _ h1_ => absurd ((hon 14 (by kernel_rfl)).symm.trans h1_) (by decide), fun _ _ h2_ => absurd ((hon 11 (by kernel_rfl)).symm.trans h2_) (by decide), fun _ h1_ => absurd ((hon 14 (by kernel_rfl)).symm.trans h1_) (by decide), fun _ h1_ => absurd ((hon 15 (by kernel_rfl)).symm.trans h1_) (by decide), fun _ h1_ => absurd ((hon 21 (by kernel_rfl)).symm.trans h1_) (by decide), fun _ h1_ => absurd ((hon 22 (by kernel_rfl)).symm.trans h1_) (by decide), fun h0_ _ => absurd ((hoff 27 (by kernel_rfl)).symm.trans h0_) (by decide), fun h0_ _ => absurd ((hoff 29 (by kernel_rfl)).symm.trans h0_) (by decide), fun h0_ _ => absurd ((hoff 34 (by kernel_rfl)).symm.trans h0_) (by decide), fun h0_ _ => absurd ((hoff 36 (by kernel_rfl)).symm.trans h0_) (by decide), Q_X0_, Q_X4_, Q_X9_, Q_X13_, Q_X19_, fun h0_ => absurd ((hoff 27 (by kernel_rfl)).symm.trans h0_) (by decide), fun h0_ => absurd ((hoff 34 (by kernel_rfl)).symm.trans h0_) (by decide)⟩
            refine steps_cons ?_ ?_
            · rintro b a w' ⟨b0_, b4_, b9_, b13_, b19_, b27_, b34_, s2_, s5_, s11_, s14_, s21_, s29_, s36_, m0_, m4_, m9_, m13_, m19_, m27_, m34_, ha, Q_HW, Q_H0, Q_HS4, Q_HN0, Q_H2, Q_H5, Q_H9, Q_HS13, Q_HN9, Q_H11, Q_H14, Q_H19, Q_H21, Q_H27, Q_H29, Q_H34, Q_H36, Q_X0_, Q_X4_, Q_X9_, Q_X13_, Q_X19_, Q_X27_, Q_X34_⟩ hb_ hon hoff
              refine ⟨_, rfl, fun K hK => ?_⟩
              have e116 : a.tmps[116]? = some (.agg #[.int .i64 xt, .int .i64 xf, .int .i64 xc, .int .i64 9]) := by rw [ha]; exact putSel_on (e := (26, 116, .agg #[.int .i64 xt, .int .i64 xf, .int .i64 xc, .int .i64 9])) 25 rfl rfl (hon 26 (by kernel_rfl)) rfl
              have e115 : a.tmps[115]? = some (.bool true) := by rw [ha]; exact putSel_on (e := (25, 115, .bool true)) 24 rfl rfl (hon 25 (by kernel_rfl)) rfl
              replace ha := Aside0.mk ha
              have HW := Aside0.mk Q_HW
              refine value_ (w1 := w'.alloc (.cells #[.int .i64 xt, .int .i64 xf, .int .i64 xc, .int .i64 9] 25)) (v := .slice (some ⟨w'.heap.size, 0, none⟩) 1 1) (wanted_on rfl rfl rfl e115) rfl (by go_simp) ?_
              refine hK.out _ _ ⟨b0_, b4_, b9_, b13_, b19_, w'.heap.size, b34_, s2_, s5_, s11_, s14_, s21_, s29_, s36_, m0_, m4_, m9_, m13_, m19_, (.slice (some ⟨w'.heap.size, 0, none⟩) 1 1), m34_, (by rw [ha.out]; exact putSel_upk 26 hb_ rfl rfl rfl), below_alloc HW.out _, fun _ h1_ => absurd ((hon 2 (by kernel_rfl)).symm.trans h1_) (by decide), fun _ h1_ => absurd ((hon 5 (by kernel_rfl)).symm.trans h1_) (by decide), fun _ _ h2_ => absurd ((hon 2 (by kernel_rfl)).symm.trans h2_) (by decide), fun _ h1_ => absurd ((hon 5 (by kernel_rfl)).symm.trans h1_) (by decide), fun _ h1_ => absurd ((hon 6 (by kernel_rfl)).symm.trans h1_) (by decide), fun _ h1_ => absurd ((hon 11 (by kernel_rfl)).symm.trans h1_) (by decide), fun _ h1_ => absurd ((hon 14 (by kernel_rfl)).symm.trans h1_) (by decide), fun _ _ h2_ => absurd ((hon 11 (by kernel_rfl)).symm.trans h2_) (by decide), fun _ h1_ => absurd ((hon 14 (by kernel_rfl)).symm.trans h1_) (by decide), fun _ h1_ => absurd ((hon 15 (by kernel_rfl)).symm.trans h1_) (by decide), fun _ h1_ => absurd ((hon 21 (by kernel_rfl)).symm.trans h1_) (by decide), fun _ h1_ => absurd ((hon 22 (by kernel_rfl)).symm.trans h1_) (by decide), fun _ _ => Kd.R_lower (own_flat1 (xt, xf, xc, 9) w' 25) HW.out.size, fun h0_ _ => absurd ((hoff 29 (by kernel_rfl)).symm.trans h0_) (by decide), fun h0_ _ => absurd ((hoff 34 (by kernel_rfl)).symm.trans h0_) (by decide), fun h0_ _ => absurd ((hoff 36 (by kernel_rfl)).symm.trans h0_) (by decide), Q_X0_, Q_X4_, Q_X9_, Q_X13_, Q_X19_, fun _ => rfl, fun h0_ => absurd ((hoff 34 (by kernel_rfl)).symm.trans h0_) (by decide)⟩
            refine steps_cons ?_ ?_
            · rintro b a w' ⟨b0_, b4_, b9_, b13_, b19_, b27_, b34_, s2_, s5_, s11_, s14_, s21_, s29_, s36_, m0_, m4_, m9_, m13_, m19_, m27_, m34_, ha, Q_HW, Q_H0, Q_HS4, Q_HN0, Q_H2, Q_H5, Q_H9, Q_HS13, Q_HN9, Q_H11, Q_H14, Q_H19, Q_H21, Q_H27, Q_H29, Q_H34, Q_H36, Q_X0_, Q_X4_, Q_X9_, Q_X13_, Q_X19_, Q_X27_, Q_X34_⟩ hb_ hon hoff
              refine ⟨_, rfl, fun K hK => ?_⟩
              have e5 : a.tmps[5]? = some (.slice (some ad5) cs.length c5) := by rw [ha]; exact (putSel_off rfl).trans rfl
              have e115 : a.tmps[115]? = some (.bool true) := by rw [ha]; exact putSel_on (e := (25, 115, .bool true)) 24 rfl rfl (hon 25 (by kernel_rfl)) rfl
              replace ha := Aside0.mk ha
              have HW := Aside0.mk Q_HW
              refine value_ (w1 := w') (v := .slice (some ad5) cs.length c5) (wanted_on rfl rfl rfl (e115.trans (by first | rfl | (simp [*]; done)))) rfl ?_ ?_
              · go_simp
                (try simp only [i64_w])
                try rfl
              refine hK.out _ _ ⟨b0_, b4_, b9_, b13_, b19_, b27_, b34_, s2_, s5_, s11_, s14_, s21_, s29_, s36_, m0_, m4_, m9_, m13_, m19_, m27_, m34_, (by rw [ha.out]; exact putSel_upk 27 hb_ rfl rfl rfl), Q_HW, fun _ h1_ => absurd ((hon 2 (by kernel_rfl)).symm.trans h1_) (by decide), fun _ h1_ => absurd ((hon 5 (by kernel_rfl)).symm.trans h1_) (by decide), fun _ _ h2_ => absurd ((hon 2 (by kernel_rfl)).symm.trans h2_) (by decide), fun _ h1_ => absurd ((hon 5 (by kernel_rfl)).symm.trans h1_) (by decide), fun _ h1_ => absurd ((hon 6 (by kernel_rfl)).symm.trans h1_) (by decide), fun _ h1_ => absurd ((hon 11 (by kernel_rfl)).symm.trans h1_) (by decide), fun _ h1_ => absurd ((hon 14 (by kernel_rfl)).symm.trans h1_) (by decide), fun _ _ h2_ => absurd ((hon 11 (by kernel_rfl)).symm.trans h2_) (by decide), fun _ h1_ => absurd ((hon 14 (by kernel_rfl)).symm.trans h1_) (by decide), fun _ h1_ => absurd ((hon 15 (by kernel_rfl)).symm.trans h1_) (by decide), fun _ h1_ => absurd ((hon 21 (by kernel_rfl)).symm.trans h1_) (by decide), fun _ h1_ => absurd ((hon 22 (by kernel_rfl)).symm.trans h1_) (by decide), Q_H27, fun h0_ _ => absurd ((hoff 29 (by kernel_rfl)).symm.trans h0_) (by decide), fun h0_ _ => absurd ((hoff 34 (by kernel_rfl)).symm.trans h0_) (by decide), fun h0_ _ => absurd ((hoff 36 (by kernel_rfl)).symm.trans h0_) (by decide), Q_X0_, Q_X4_, Q_X9_, Q_X13_, Q_X19_, Q_X27_, fun h0_ => absurd ((hoff 34 (by kernel_rfl)).symm.trans h0_) (by decide)⟩
            refine steps_cons ?_ ?_
            · rintro b a w' ⟨b0_, b4_, b9_, b13_, b19_, b27_, b34_, s2_, s5_, s11_, s14_, s21_, s29_, s36_, m0_, m4_, m9_, m13_, m19_, m27_, m34_, ha, Q_HW, Q_H0, Q_HS4, Q_HN0, Q_H2, Q_H5, Q_H9, Q_HS13, Q_HN9, Q_H11, Q_H14, Q_H19, Q_H21, Q_H27, Q_H29, Q_H34, Q_H36, Q_X0_, Q_X4_, Q_X9_, Q_X13_, Q_X19_, Q_X27_, Q_X34_⟩ hb_ hon hoff
              refine ⟨_, rfl, fun K hK => ?_⟩
              have e117 : a.tmps[117]? = some (m27_) := by rw [ha]; exact putSel_on (e := (27, 117, m27_)) 26 rfl rfl (hon 27 (by kernel_rfl)) rfl
              rw [Q_X27_ (hon 27 (by kernel_rfl))] at e117
              have e118 : a.tmps[118]? = some (.slice (some ad5) cs.length c5) := by rw [ha]; exact putSel_on (e := (28, 118, .slice (some ad5) cs.length c5)) 27 rfl rfl (hon 28 (by kernel_rfl)) rfl
              have e115 : a.tmps[115]? = some (.bool true) := by rw [ha]; exact putSel_on (e := (25, 115, .bool true)) 24 rfl rfl (hon 25 (by kernel_rfl)) rfl
              replace ha := Aside0.mk ha
              have HW := Aside0.mk Q_HW
              have H27 := Aside0.mk (Q_H27 (hon 27 (by kernel_rfl)) hb_)
              refine cat_step kCr flatKM wd w' wd.heap.size (wanted_on rfl rfl rfl e115) (.tmp 117) (.tmp 118) 27 25 (.agg #[.int .i64 0, .int .i64 0, .int .i64 0, .int .i64 0]) 32 rfl Try.underlying27 infoCr rfl (by decide) (by omega) (.slice (some ⟨b27_, 0, none⟩) 1 1) ([(xt, xf, xc, 9)]) (cs) (some ad5) (cs.length) (c5) (eval_of e117) (eval_of e118) (H27.out) (Kd.C_below HC5.out HW.out) HW.out HW.out.size (by simp; omega) ?_
              intro v1 w1 ho hb hg
              refine hK.out _ _ ⟨b0_, b4_, b9_, b13_, b19_, b27_, b34_, s2_, s5_, s11_, s14_, s21_, v1, s36_, m0_, m4_, m9_, m13_, m19_, m27_, m34_, (by rw [ha.out]; exact putSel_upk 28 hb_ rfl rfl rfl), hb, fun _ h1_ => absurd ((hon 2 (by kernel_rfl)).symm.trans h1_) (by decide), fun _ h1_ => absurd ((hon 5 (by kernel_rfl)).symm.trans h1_) (by decide), fun _ _ h2_ => absurd ((hon 2 (by kernel_rfl)).symm.trans h2_) (by decide), fun _ h1_ => absurd ((hon 5 (by kernel_rfl)).symm.trans h1_) (by decide), fun _ h1_ => absurd ((hon 6 (by kernel_rfl)).symm.trans h1_) (by decide), fun _ h1_ => absurd ((hon 11 (by kernel_rfl)).symm.trans h1_) (by decide), fun _ h1_ => absurd ((hon 14 (by kernel_rfl)).symm.trans h1_) (by decide), fun _ _ h2_ => absurd ((hon 11 (by kernel_rfl)).symm.trans h2_) (by decide), fun _ h1_ => absurd ((hon 14 (by kernel_rfl)).symm.trans h1_) (by decide), fun _ h1_ => absurd ((hon 15 (by kernel_rfl)).symm.trans h1_) (by decide), fun _ h1_ => absurd ((hon 21 (by kernel_rfl)).symm.trans h1_) (by decide), fun _ h1_ => absurd ((hon 22 (by kernel_rfl)).symm.trans h1_) (by decide), fun _ h1_ => absurd ((up_self b 29).symm.trans h1_) (by decide), fun _ _ => ho, fun h0_ _ => absurd ((hoff 34 (by kernel_rfl)).symm.trans h0_) (by decide), fun h0_ _ => absurd ((hoff 36 (by kernel_rfl)).symm.trans h0_) (by decide), Q_X0_, Q_X4_, Q_X9_, Q_X13_, Q_X19_, Q_X27_, fun h0_ => absurd ((hoff 34 (by kernel_rfl)).symm.trans h0_) (by decide)⟩
            refine steps_cons ?_ ?_
            · rintro b a w' ⟨b0_, b4_, b9_, b13_, b19_, b27_, b34_, s2_, s5_, s11_, s14_, s21_, s29_, s36_, m0_, m4_, m9_, m13_, m19_, m27_, m34_, ha, Q_HW, Q_H0, Q_HS4, Q_HN0, Q_H2, Q_H5, Q_H9, Q_HS13, Q_HN9, Q_H11, Q_H14, Q_H19, Q_H21, Q_H27, Q_H29, Q_H34, Q_H36, Q_X0_, Q_X4_, Q_X9_, Q_X13_, Q_X19_, Q_X27_, Q_X34_⟩ hb_ hon hoff
              refine ⟨_, rfl, fun K hK => ?_⟩
              have e119 : a.tmps[119]? = some (s29_) := by rw [ha]; exact putSel_on (e := (29, 119, s29_)) 28 rfl rfl (hon 29 (by kernel_rfl)) rfl
              have e115 : a.tmps[115]? = some (.bool true) := by rw [ha]; exact putSel_on (e := (25, 115, .bool true)) 24 rfl rfl (hon 25 (by kernel_rfl)) rfl
              replace ha := Aside0.mk ha
              have HW := Aside0.mk Q_HW
              have H29 := Aside0.mk (Q_H29 (hon 29 (by kernel_rfl)) hb_)
              refine goes_ Try.func8 (by kernel_rfl) rfl #[s29_] (wanted_on rfl rfl rfl e115) rfl rfl (by simp only [List.map_toArray, List.map_cons, List.map_nil, Act.eval, Array.getD_eq_getD_getElem?, Option.getD_some, e119]) ?_
              obtain ⟨aR, cR, hs, hcR, hCR⟩ := Kd.R_reads H29.out
              have hc := oneway_calls aR cR ([(xt, xf, xc, 9)] ++ cs) w' hCR HO4.out (by simp; omega)
              rw [← hs] at hc
              refine hc.mono ?_
              rintro e w2 ⟨he, hB⟩
              rw [HV4.out] at he
              subst he
              refine ⟨_, rfl, ?_⟩
              refine hK.out _ _ ⟨b0_, b4_, b9_, b13_, b19_, b27_, b34_, s2_, s5_, s11_, s14_, s21_, s29_, s36_, m0_, m4_, m9_, m13_, m19_, m27_, m34_, (by rw [ha.out]; exact putSel_upk 29 hb_ rfl rfl rfl), below_step HW.out hB, fun _ h1_ => absurd ((hon 2 (by kernel_rfl)).symm.trans h1_) (by decide), fun _ h1_ => absurd ((hon 5 (by kernel_rfl)).symm.trans h1_) (by decide), fun _ _ h2_ => absurd ((hon 2 (by kernel_rfl)).symm.trans h2_) (by decide), fun _ h1_ => absurd ((hon 5 (by kernel_rfl)).symm.trans h1_) (by decide), fun _ h1_ => absurd ((hon 6 (by kernel_rfl)).symm.trans h1_) (by decide), fun _ h1_ => absurd ((hon 11 (by kernel_rfl)).symm.trans h1_) (by decide), fun _ h1_ => absurd ((hon 14 (by kernel_rfl)).symm.trans h1_) (by decide), fun _ _ h2_ => absurd ((hon 11 (by kernel_rfl)).symm.trans h2_) (by decide), fun _ h1_ => absurd ((hon 14 (by kernel_rfl)).symm.trans h1_) (by decide), fun _ h1_ => absurd ((hon 15 (by kernel_rfl)).symm.trans h1_) (by decide), fun _ h1_ => absurd ((hon 21 (by kernel_rfl)).symm.trans h1_) (by decide), fun _ h1_ => absurd ((hon 22 (by kernel_rfl)).symm.trans h1_) (by decide), fun _ h1_ => absurd ((hon 29 (by kernel_rfl)).symm.trans h1_) (by decide), fun _ h1_ => absurd ((up_self b 30).symm.trans h1_) (by decide), fun h0_ _ => absurd ((hoff 34 (by kernel_rfl)).symm.trans h0_) (by decide), fun h0_ _ => absurd ((hoff 36 (by kernel_rfl)).symm.trans h0_) (by decide), Q_X0_, Q_X4_, Q_X9_, Q_X13_, Q_X19_, Q_X27_, fun h0_ => absurd ((hoff 34 (by kernel_rfl)).symm.trans h0_) (by decide)⟩
            refine steps_cons ?_ ?_
            · rintro b a w' ⟨b0_, b4_, b9_, b13_, b19_, b27_, b34_, s2_, s5_, s11_, s14_, s21_, s29_, s36_, m0_, m4_, m9_, m13_, m19_, m27_, m34_, ha, Q_HW, Q_H0, Q_HS4, Q_HN0, Q_H2, Q_H5, Q_H9, Q_HS13, Q_HN9, Q_H11, Q_H14, Q_H19, Q_H21, Q_H27, Q_H29, Q_H34, Q_H36, Q_X0_, Q_X4_, Q_X9_, Q_X13_, Q_X19_, Q_X27_, Q_X34_⟩ hb_ hon hoff
              refine ⟨_, rfl, fun K hK => ?_⟩
              have e115 : a.tmps[115]? = some (.bool true) := by rw [ha]; exact putSel_on (e := (25, 115, .bool true)) 24 rfl rfl (hon 25 (by kernel_rfl)) rfl
              have e120 : a.tmps[120]? = some (.bool true) := by rw [ha]; exact putSel_on (e := (30, 120, .bool true)) 29 rfl rfl (hon 30 (by kernel_rfl)) rfl
              replace ha := Aside0.mk ha
              have HW := Aside0.mk Q_HW
              refine value_ (w1 := w') (v := .bool true) (by rfl) rfl ?_ ?_
              · go_simp
                (try simp only [i64_w])
                try rfl
              refine hK.out _ _ ⟨b0_, b4_, b9_, b13_, b19_, b27_, b34_, s2_, s5_, s11_, s14_, s21_, s29_, s36_, m0_, m4_, m9_, m13_, m19_, m27_, m34_, (by rw [ha.out]; exact putSel_upk 30 hb_ rfl rfl rfl), Q_HW, fun _ h1_ => absurd ((hon 2 (by kernel_rfl)).symm.trans h1_) (by decide), fun _ h1_ => absurd ((hon 5 (by kernel_rfl)).symm.trans h1_) (by decide), fun _ _ h2_ => absurd ((hon 2 (by kernel_rfl)).symm.trans h2_) (by decide), fun _ h1_ => absurd ((hon 5 (by kernel_rfl)).symm.trans h1_) (by decide), fun _ h1_ => absurd ((hon 6 (by kernel_rfl)).symm.trans h1_) (by decide), fun _ h1_ => absurd ((hon 11 (by kernel_rfl)).symm.trans h1_) (by decide), fun _ h1_ => absurd ((hon 14 (by kernel_rfl)).symm.trans h1_) (by decide), fun _ _ h2_ => absurd ((hon 11 (by kernel_rfl)).symm.trans h2_) (by decide), fun _ h1_ => absurd ((hon 14 (by kernel_rfl)).symm.trans h1_) (by decide), fun _ h1_ => absurd ((hon 15 (by kernel_rfl)).symm.trans h1_) (by decide), fun _ h1_ => absurd ((hon 21 (by kernel_rfl)).symm.trans h1_) (by decide), fun _ h1_ => absurd ((hon 22 (by kernel_rfl)).symm.trans h1_) (by decide), fun _ h1_ => absurd ((hon 29 (by kernel_rfl)).symm.trans h1_) (by decide), fun _ h1_ => absurd ((hon 30 (by kernel_rfl)).symm.trans h1_) (by decide), fun h0_ _ => absurd ((hoff 34 (by kernel_rfl)).symm.trans h0_) (by decide), fun h0_ _ => absurd ((hoff 36 (by kernel_rfl)).symm.trans h0_) (by decide), Q_X0_, Q_X4_, Q_X9_, Q_X13_, Q_X19_, Q_X27_, fun h0_ => absurd ((hoff 34 (by kernel_rfl)).symm.trans h0_) (by decide)⟩
            refine steps_cons ?_ ?_
            · rintro b a w' ⟨b0_, b4_, b9_, b13_, b19_, b27_, b34_, s2_, s5_, s11_, s14_, s21_, s29_, s36_, m0_, m4_, m9_, m13_, m19_, m27_, m34_, ha, Q_HW, Q_H0, Q_HS4, Q_HN0, Q_H2, Q_H5, Q_H9, Q_HS13, Q_HN9, Q_H11, Q_H14, Q_H19, Q_H21, Q_H27, Q_H29, Q_H34, Q_H36, Q_X0_, Q_X4_, Q_X9_, Q_X13_, Q_X19_, Q_X27_, Q_X34_⟩ hb_ hon hoff
              refine ⟨_, rfl, fun K hK => ?_⟩
              have e121 : a.tmps[121]? = some (.bool true) := by rw [ha]; exact putSel_on (e := (31, 121, .bool true)) 30 rfl rfl (hon 31 (by kernel_rfl)) rfl
              replace ha := Aside0.mk ha
              have HW := Aside0.mk Q_HW
              refine value_ (w1 := w') (v := .bool true) (by rfl) rfl ?_ ?_
              · go_simp
                (try simp only [i64_w])
                try rfl
              refine hK.out _ _ ⟨b0_, b4_, b9_, b13_, b19_, b27_, b34_, s2_, s5_, s11_, s14_, s21_, s29_, s36_, m0_, m4_, m9_, m13_, m19_, m27_, m34_, (by rw [ha.out]; exact putSel_upk 31 hb_ rfl rfl rfl), Q_HW, fun _ h1_ => absurd ((hon 2 (by kernel_rfl)).symm.trans h1_) (by decide), fun _ h1_ => absurd ((hon 5 (by kernel_rfl)).symm.trans h1_) (by decide), fun _ _ h2_ => absurd ((hon 2 (by kernel_rfl)).symm.trans h2_) (by decide), fun _ h1_ => absurd ((hon 5 (by kernel_rfl)).symm.trans h1_) (by decide), fun _ h1_ => absurd ((hon 6 (by kernel_rfl)).symm.trans h1_) (by decide), fun _ h1_ => absurd ((hon 11 (by kernel_rfl)).symm.trans h1_) (by decide), fun _ h1_ => absurd ((hon 14 (by kernel_rfl)).symm.trans h1_) (by decide), fun _ _ h2_ => absurd ((hon 11 (by kernel_rfl)).symm.trans h2_) (by decide), fun _ h1_ => absurd ((hon 14 (by kernel_rfl)).symm.trans h1_) (by decide), fun _ h1_ => absurd ((hon 15 (by kernel_rfl)).symm.trans h1_) (by decide), fun _ h1_ => absurd ((hon 21 (by kernel_rfl)).symm.trans h1_) (by decide), fun _ h1_ => absurd ((hon 22 (by kernel_rfl)).symm.trans h1_) (by decide), fun _ h1_ => absurd ((hon 29 (by kernel_rfl)).symm.trans h1_) (by decide), fun _ h1_ => absurd ((hon 30 (by kernel_rfl)).symm.trans h1_) (by decide), fun h0_ _ => absurd ((hoff 34 (by kernel_rfl)).symm.trans h0_) (by decide), fun h0_ _ => absurd ((hoff 36 (by kernel_rfl)).symm.trans h0_) (by decide), Q_X0_, Q_X4_, Q_X9_, Q_X13_, Q_X19_, Q_X27_, fun h0_ => absurd ((hoff 34 (by kernel_rfl)).symm.trans h0_) (by decide)⟩
            refine steps_cons ?_ ?_
            · rintro b a w' ⟨b0_, b4_, b9_, b13_, b19_, b27_, b34_, s2_, s5_, s11_, s14_, s21_, s29_, s36_, m0_, m4_, m9_, m13_, m19_, m27_, m34_, ha, Q_HW, Q_H0, Q_HS4, Q_HN0, Q_H2, Q_H5, Q_H9, Q_HS13, Q_HN9, Q_H11, Q_H14, Q_H19, Q_H21, Q_H27, Q_H29, Q_H34, Q_H36, Q_X0_, Q_X4_, Q_X9_, Q_X13_, Q_X19_, Q_X27_, Q_X34_⟩ hb_ hon hoff
              refine ⟨_, rfl, fun K hK => ?_⟩
              have e10 : a.tmps[10]? = some (.pointer (some ⟨P10, 0, none⟩)) := by rw [ha]; exact (putSel_off rfl).trans rfl
              have e122 : a.tmps[122]? = some (.bool true) := by rw [ha]; exact putSel_on (e := (32, 122, .bool true)) 31 rfl rfl (hon 32 (by kernel_rfl)) rfl
              replace ha := Aside0.mk ha
              have HW := Aside0.mk Q_HW
              have q0 := cells_at HW.out (blk_cell HQ10.out 0)
              have q1 := cells_at HW.out (blk_cell HQ10.out 1)
              have q2 := cells_at HW.out (blk_cell HQ10.out 2)
              have q3 := cells_at HW.out (blk_cell HQ10.out 3)
              refine value_ (w1 := w') (v := .agg #[.int .i64 yc, .int .i64 yp, .int .i64 ys, .slice (some ⟨wc.heap.size + 1 + 1, 0, none⟩) 1 1]) (wanted_on rfl rfl rfl (e122.trans (by first | rfl | (simp [*]; done)))) rfl ?_ ?_
              · go_simp
                (try simp only [i64_w])
                try rfl
              refine hK.out _ _ ⟨b0_, b4_, b9_, b13_, b19_, b27_, b34_, s2_, s5_, s11_, s14_, s21_, s29_, s36_, m0_, m4_, m9_, m13_, m19_, m27_, m34_, (by rw [ha.out]; exact putSel_upk 32 hb_ rfl rfl rfl), Q_HW, fun _ h1_ => absurd ((hon 2 (by kernel_rfl)).symm.trans h1_) (by decide), fun _ h1_ => absurd ((hon 5 (by kernel_rfl)).symm.trans h1_) (by decide), fun _ _ h2_ => absurd ((hon 2 (by kernel_rfl)).symm.trans h2_) (by decide), fun _ h1_ => absurd ((hon 5 (by kernel_rfl)).symm.trans h1_) (by decide), fun _ h1_ => absurd ((hon 6 (by kernel_rfl)).symm.trans h1_) (by decide), fun _ h1_ => absurd ((hon 11 (by kernel_rfl)).symm.trans h1_) (by decide), fun _ h1_ => absurd ((hon 14 (by kernel_rfl)).symm.trans h1_) (by decide), fun _ _ h2_ => absurd ((hon 11 (by kernel_rfl)).symm.trans h2_) (by decide), fun _ h1_ => absurd ((hon 14 (by kernel_rfl)).symm.trans h1_) (by decide), fun _ h1_ => absurd ((hon 15 (by kernel_rfl)).symm.trans h1_) (by decide), fun _ h1_ => absurd ((hon 21 (by kernel_rfl)).symm.trans h1_) (by decide), fun _ h1_ => absurd ((hon 22 (by kernel_rfl)).symm.trans h1_) (by decide), fun _ h1_ => absurd ((hon 29 (by kernel_rfl)).symm.trans h1_) (by decide), fun _ h1_ => absurd ((hon 30 (by kernel_rfl)).symm.trans h1_) (by decide), fun h0_ _ => absurd ((hoff 34 (by kernel_rfl)).symm.trans h0_) (by decide), fun h0_ _ => absurd ((hoff 36 (by kernel_rfl)).symm.trans h0_) (by decide), Q_X0_, Q_X4_, Q_X9_, Q_X13_, Q_X19_, Q_X27_, fun h0_ => absurd ((hoff 34 (by kernel_rfl)).symm.trans h0_) (by decide)⟩
            refine steps_cons ?_ ?_
            · rintro b a w' ⟨b0_, b4_, b9_, b13_, b19_, b27_, b34_, s2_, s5_, s11_, s14_, s21_, s29_, s36_, m0_, m4_, m9_, m13_, m19_, m27_, m34_, ha, Q_HW, Q_H0, Q_HS4, Q_HN0, Q_H2, Q_H5, Q_H9, Q_HS13, Q_HN9, Q_H11, Q_H14, Q_H19, Q_H21, Q_H27, Q_H29, Q_H34, Q_H36, Q_X0_, Q_X4_, Q_X9_, Q_X13_, Q_X19_, Q_X27_, Q_X34_⟩ hb_ hon hoff
              refine ⟨_, rfl, fun K hK => ?_⟩
              have e123 : a.tmps[123]? = some (.agg #[.int .i64 yc, .int .i64 yp, .int .i64 ys, .slice (some ⟨wc.heap.size + 1 + 1, 0, none⟩) 1 1]) := by rw [ha]; exact putSel_on (e := (33, 123, .agg #[.int .i64 yc, .int .i64 yp, .int .i64 ys, .slice (some ⟨wc.heap.size + 1 + 1, 0, none⟩) 1 1])) 32 rfl rfl (hon 33 (by kernel_rfl)) rfl
              have e122 : a.tmps[122]? = some (.bool true) := by rw [ha]; exact putSel_on (e := (32, 122, .bool true)) 31 rfl rfl (hon 32 (by kernel_rfl)) rfl
              replace ha := Aside0.mk ha
              have HW := Aside0.mk Q_HW
              refine value_ (w1 := w'.alloc (.cells #[.int .i64 yc, .int .i64 yp, .int .i64 ys, .slice (some ⟨wc.heap.size + 1 + 1, 0, none⟩) 1 1] 39)) (v := .slice (some ⟨w'.heap.size, 0, none⟩) 1 1) (wanted_on rfl rfl rfl e122) rfl (by go_simp) ?_
              refine hK.out _ _ ⟨b0_, b4_, b9_, b13_, b19_, b27_, w'.heap.size, s2_, s5_, s11_, s14_, s21_, s29_, s36_, m0_, m4_, m9_, m13_, m19_, m27_, (.slice (some ⟨w'.heap.size, 0, none⟩) 1 1), (by rw [ha.out]; exact putSel_upk 33 hb_ rfl rfl rfl), below_alloc HW.out _, fun _ h1_ => absurd ((hon 2 (by kernel_rfl)).symm.trans h1_) (by decide), fun _ h1_ => absurd ((hon 5 (by kernel_rfl)).symm.trans h1_) (by decide), fun _ _ h2_ => absurd ((hon 2 (by kernel_rfl)).symm.trans h2_) (by decide), fun _ h1_ => absurd ((hon 5 (by kernel_rfl)).symm.trans h1_) (by decide), fun _ h1_ => absurd ((hon 6 (by kernel_rfl)).symm.trans h1_) (by decide), fun _ h1_ => absurd ((hon 11 (by kernel_rfl)).symm.trans h1_) (by decide), fun _ h1_ => absurd ((hon 14 (by kernel_rfl)).symm.trans h1_) (by decide), fun _ _ h2_ => absurd ((hon 11 (by kernel_rfl)).symm.trans h2_) (by decide), fun _ h1_ => absurd ((hon 14 (by kernel_rfl)).symm.trans h1_) (by decide), fun _ h1_ => absurd ((hon 15 (by kernel_rfl)).symm.trans h1_) (by decide), fun _ h1_ => absurd ((hon 21 (by kernel_rfl)).symm.trans h1_) (by decide), fun _ h1_ => absurd ((hon 22 (by kernel_rfl)).symm.trans h1_) (by decide), fun _ h1_ => absurd ((hon 29 (by kernel_rfl)).symm.trans h1_) (by decide), fun _ h1_ => absurd ((hon 30 (by kernel_rfl)).symm.trans h1_) (by decide), fun _ _ => Kd.R_lower (own_flat1 (yc, yp, ys, (some ⟨wc.heap.size + 1 + 1, 0, none⟩ : Option Addr), 1, 1) w' 39) HW.out.size, fun h0_ _ => absurd ((hoff 36 (by kernel_rfl)).symm.trans h0_) (by decide), Q_X0_, Q_X4_, Q_X9_, Q_X13_, Q_X19_, Q_X27_, fun _ => rfl⟩
            refine steps_cons ?_ ?_
            · rintro b a w' ⟨b0_, b4_, b9_, b13_, b19_, b27_, b34_, s2_, s5_, s11_, s14_, s21_, s29_, s36_, m0_, m4_, m9_, m13_, m19_, m27_, m34_, ha, Q_HW, Q_H0, Q_HS4, Q_HN0, Q_H2, Q_H5, Q_H9, Q_HS13, Q_HN9, Q_H11, Q_H14, Q_H19, Q_H21, Q_H27, Q_H29, Q_H34, Q_H36, Q_X0_, Q_X4_, Q_X9_, Q_X13_, Q_X19_, Q_X27_, Q_X34_⟩ hb_ hon hoff
              refine ⟨_, rfl, fun K hK => ?_⟩
              have e6 : a.tmps[6]? = some (.slice (some ad6) ds.length c6) := by rw [ha]; exact (putSel_off rfl).trans rfl
              have e122 : a.tmps[122]? = some (.bool true) := by rw [ha]; exact putSel_on (e := (32, 122, .bool true)) 31 rfl rfl (hon 32 (by kernel_rfl)) rfl
              replace ha := Aside0.mk ha
              have HW := Aside0.mk Q_HW
              refine value_ (w1 := w') (v := .slice (some ad6) ds.length c6) (wanted_on rfl rfl rfl (e122.trans (by first | rfl | (simp [*]; done)))) rfl ?_ ?_
              · go_simp
                (try simp only [i64_w])
                try rfl
              refine hK.out _ _ ⟨b0_, b4_, b9_, b13_, b19_, b27_, b34_, s2_, s5_, s11_, s14_, s21_, s29_, s36_, m0_, m4_, m9_, m13_, m19_, m27_, m34_, (by rw [ha.out]; exact putSel_upk 34 hb_ rfl rfl rfl), Q_HW, fun _ h1_ => absurd ((hon 2 (by kernel_rfl)).symm.trans h1_) (by decide), fun _ h1_ => absurd ((hon 5 (by kernel_rfl)).symm.trans h1_) (by decide), fun _ _ h2_ => absurd ((hon 2 (by kernel_rfl)).symm.trans h2_) (by decide), fun _ h1_ => absurd ((hon 5 (by kernel_rfl)).symm.trans h1_) (by decide), fun _ h1_ => absurd ((hon 6 (by kernel_rfl)).symm.trans h1_) (by decide), fun _ h1_ => absurd ((hon 11 (by kernel_rfl)).symm.trans h1_) (by decide), fun _ h1_ => absurd ((hon 14 (by kernel_rfl)).symm.trans h1_) (by decide), fun _ _ h2_ => absurd ((hon 11 (by kernel_rfl)).symm.trans h2_) (by decide), fun _ h1_ => absurd ((hon 14 (by kernel_rfl)).symm.trans h1_) (by decide), fun _ h1_ => absurd ((hon 15 (by kernel_rfl)).symm.trans h1_) (by decide), fun _ h1_ => absurd ((hon 21 (by kernel_rfl)).symm.trans h1_) (by decide), fun _ h1_ => absurd ((hon 22 (by kernel_rfl)).symm.trans h1_) (by decide), fun _ h1_ => absurd ((hon 29 (by kernel_rfl)).symm.trans h1_) (by decide), fun _ h1_ => absurd ((hon 30 (by kernel_rfl)).symm.trans h1_) (by decide), Q_H34, fun h0_ _ => absurd ((hoff 36 (by kernel_rfl)).symm.trans h0_) (by decide), Q_X0_, Q_X4_, Q_X9_, Q_X13_, Q_X19_, Q_X27_, Q_X34_⟩
            refine steps_cons ?_ ?_
            · rintro b a w' ⟨b0_, b4_, b9_, b13_, b19_, b27_, b34_, s2_, s5_, s11_, s14_, s21_, s29_, s36_, m0_, m4_, m9_, m13_, m19_, m27_, m34_, ha, Q_HW, Q_H0, Q_HS4, Q_HN0, Q_H2, Q_H5, Q_H9, Q_HS13, Q_HN9, Q_H11, Q_H14, Q_H19, Q_H21, Q_H27, Q_H29, Q_H34, Q_H36, Q_X0_, Q_X4_, Q_X9_, Q_X13_, Q_X19_, Q_X27_, Q_X34_⟩ hb_ hon hoff
              refine ⟨_, rfl, fun K hK => ?_⟩
              have e124 : a.tmps[124]? = some (m34_) := by rw [ha]; exact putSel_on (e := (34, 124, m34_)) 33 rfl rfl (hon 34 (by kernel_rfl)) rfl
              rw [Q_X34_ (hon 34 (by kernel_rfl))] at e124
              have e125 : a.tmps[125]? = some (.slice (some ad6) ds.length c6) := by rw [ha]; exact putSel_on (e := (35, 125, .slice (some ad6) ds.length c6)) 34 rfl rfl (hon 35 (by kernel_rfl)) rfl
              have e122 : a.tmps[122]? = some (.bool true) := by rw [ha]; exact putSel_on (e := (32, 122, .bool true)) 31 rfl rfl (hon 32 (by kernel_rfl)) rfl
              replace ha := Aside0.mk ha
              have HW := Aside0.mk Q_HW
              have H34 := Aside0.mk (Q_H34 (hon 34 (by kernel_rfl)) hb_)
              refine cat_step kDl flatKM wd w' wd.heap.size (wanted_on rfl rfl rfl e122) (.tmp 124) (.tmp 125) 36 39 (.agg #[.int .i64 0, .int .i64 0, .int .i64 0, .slice none 0 0]) 48 rfl Try.underlying36 infoDl rfl (by decide) (by omega) (.slice (some ⟨b34_, 0, none⟩) 1 1) ([(yc, yp, ys, (some ⟨wc.heap.size + 1 + 1, 0, none⟩ : Option Addr), 1, 1)]) (ds) (some ad6) (ds.length) (c6) (eval_of e124) (eval_of e125) (H34.out) (Kd.C_below HC6.out HW.out) HW.out HW.out.size (by simp; omega) ?_
              intro v1 w1 ho hb hg
              refine hK.out _ _ ⟨b0_, b4_, b9_, b13_, b19_, b27_, b34_, s2_, s5_, s11_, s14_, s21_, s29_, v1, m0_, m4_, m9_, m13_, m19_, m27_, m34_, (by rw [ha.out]; exact putSel_upk 35 hb_ rfl rfl rfl), hb, fun _ h1_ => absurd ((hon 2 (by kernel_rfl)).symm.trans h1_) (by decide), fun _ h1_ => absurd ((hon 5 (by kernel_rfl)).symm.trans h1_) (by decide), fun _ _ h2_ => absurd ((hon 2 (by kernel_rfl)).symm.trans h2_) (by decide), fun _ h1_ => absurd ((hon 5 (by kernel_rfl)).symm.trans h1_) (by decide), fun _ h1_ => absurd ((hon 6 (by kernel_rfl)).symm.trans h1_) (by decide), fun _ h1_ => absurd ((hon 11 (by kernel_rfl)).symm.trans h1_) (by decide), fun _ h1_ => absurd ((hon 14 (by kernel_rfl)).symm.trans h1_) (by decide), fun _ _ h2_ => absurd ((hon 11 (by kernel_rfl)).symm.trans h2_) (by decide), fun _ h1_ => absurd ((hon 14 (by kernel_rfl)).symm.trans h1_) (by decide), fun _ h1_ => absurd ((hon 15 (by kernel_rfl)).symm.trans h1_) (by decide), fun _ h1_ => absurd ((hon 21 (by kernel_rfl)).symm.trans h1_) (by decide), fun _ h1_ => absurd ((hon 22 (by kernel_rfl)).symm.trans h1_) (by decide), fun _ h1_ => absurd ((hon 29 (by kernel_rfl)).symm.trans h1_) (by decide), fun _ h1_ => absurd ((hon 30 (by kernel_rfl)).symm.trans h1_) (by decide), fun _ h1_ => absurd ((up_self b 36).symm.trans h1_) (by decide), fun _ _ => ho, Q_X0_, Q_X4_, Q_X9_, Q_X13_, Q_X19_, Q_X27_, Q_X34_⟩
            refine steps_cons ?_ ?_
            · rintro b a w' ⟨b0_, b4_, b9_, b13_, b19_, b27_, b34_, s2_, s5_, s11_, s14_, s21_, s29_, s36_, m0_, m4_, m9_, m13_, m19_, m27_, m34_, ha, Q_HW, Q_H0, Q_HS4, Q_HN0, Q_H2, Q_H5, Q_H9, Q_HS13, Q_HN9, Q_H11, Q_H14, Q_H19, Q_H21, Q_H27, Q_H29, Q_H34, Q_H36, Q_X0_, Q_X4_, Q_X9_, Q_X13_, Q_X19_, Q_X27_, Q_X34_⟩ hb_ hon hoff
              refine ⟨_, rfl, fun K hK => ?_⟩
              have e126 : a.tmps[126]? = some (s36_) := by rw [ha]; exact putSel_on (e := (36, 126, s36_)) 35 rfl rfl (hon 36 (by kernel_rfl)) rfl
              have e122 : a.tmps[122]? = some (.bool true) := by rw [ha]; exact putSel_on (e := (32, 122, .bool true)) 31 rfl rfl (hon 32 (by kernel_rfl)) rfl
              replace ha := Aside0.mk ha
              have HW := Aside0.mk Q_HW
              have H36 := Aside0.mk (Q_H36 (hon 36 (by kernel_rfl)) hb_)
              refine goes_ Try.func10 (by kernel_rfl) rfl #[s36_] (wanted_on rfl rfl rfl e122) rfl rfl (by simp only [List.map_toArray, List.map_cons, List.map_nil, Act.eval, Array.getD_eq_getD_getElem?, Option.getD_some, e126]) ?_
              obtain ⟨aR, cR, hs, hcR, hCR⟩ := Kd.R_reads H36.out
              have hc := single_calls aR cR ([(yc, yp, ys, (some ⟨wc.heap.size + 1 + 1, 0, none⟩ : Option Addr), 1, 1)] ++ ds) w' hCR HO5.out (by simp; omega)
              rw [← hs] at hc
              refine hc.mono ?_
              rintro e w2 ⟨he, hB⟩
              rw [HV5.out] at he
              subst he
              refine ⟨_, rfl, ?_⟩
              refine hK.out _ _ ⟨b0_, b4_, b9_, b13_, b19_, b27_, b34_, s2_, s5_, s11_, s14_, s21_, s29_, s36_, m0_, m4_, m9_, m13_, m19_, m27_, m34_, (by rw [ha.out]; exact putSel_upk 36 hb_ rfl rfl rfl), below_step HW.out hB, fun _ h1_ => absurd ((hon 2 (by kernel_rfl)).symm.trans h1_) (by decide), fun _ h1_ => absurd ((hon 5 (by kernel_rfl)).symm.trans h1_) (by decide), fun _ _ h2_ => absurd ((hon 2 (by kernel_rfl)).symm.trans h2_) (by decide), fun _ h1_ => absurd ((hon 5 (by kernel_rfl)).symm.trans h1_) (by decide), fun _ h1_ => absurd ((hon 6 (by kernel_rfl)).symm.trans h1_) (by decide), fun _ h1_ => absurd ((hon 11 (by kernel_rfl)).symm.trans h1_) (by decide), fun _ h1_ => absurd ((hon 14 (by kernel_rfl)).symm.trans h1_) (by decide), fun _ _ h2_ => absurd ((hon 11 (by kernel_rfl)).symm.trans h2_) (by decide), fun _ h1_ => absurd ((hon 14 (by kernel_rfl)).symm.trans h1_) (by decide), fun _ h1_ => absurd ((hon 15 (by kernel_rfl)).symm.trans h1_) (by decide), fun _ h1_ => absurd ((hon 21 (by kernel_rfl)).symm.trans h1_) (by decide), fun _ h1_ => absurd ((hon 22 (by kernel_rfl)).symm.trans h1_) (by decide), fun _ h1_ => absurd ((hon 29 (by kernel_rfl)).symm.trans h1_) (by decide), fun _ h1_ => absurd ((hon 30 (by kernel_rfl)).symm.trans h1_) (by decide), fun _ h1_ => absurd ((hon 36 (by kernel_rfl)).symm.trans h1_) (by decide), fun _ h1_ => absurd ((up_self b 37).symm.trans h1_) (by decide), Q_X0_, Q_X4_, Q_X9_, Q_X13_, Q_X19_, Q_X27_, Q_X34_⟩
            refine steps_cons ?_ ?_
            · rintro b a w' ⟨b0_, b4_, b9_, b13_, b19_, b27_, b34_, s2_, s5_, s11_, s14_, s21_, s29_, s36_, m0_, m4_, m9_, m13_, m19_, m27_, m34_, ha, Q_HW, Q_H0, Q_HS4, Q_HN0, Q_H2, Q_H5, Q_H9, Q_HS13, Q_HN9, Q_H11, Q_H14, Q_H19, Q_H21, Q_H27, Q_H29, Q_H34, Q_H36, Q_X0_, Q_X4_, Q_X9_, Q_X13_, Q_X19_, Q_X27_, Q_X34_⟩ hb_ hon hoff
              refine ⟨_, rfl, fun K hK => ?_⟩
              have e127 : a.tmps[127]? = some (.bool false) := by rw [ha]; exact putSel_on (e := (37, 127, .bool false)) 36 rfl rfl (hon 37 (by kernel_rfl)) rfl
              have e122 : a.tmps[122]? = some (.bool true) := by rw [ha]; exact putSel_on (e := (32, 122, .bool true)) 31 rfl rfl (hon 32 (by kernel_rfl)) rfl
              replace ha := Aside0.mk ha
              have HW := Aside0.mk Q_HW
              refine value_ (w1 := w') (v := .bool true) (wanted_on rfl rfl rfl (e122.trans (by first | rfl | (simp [*]; done)))) rfl ?_ ?_
              · go_simp
                (try simp only [i64_w])
                try rfl
              refine hK.out _ _ ⟨b0_, b4_, b9_, b13_, b19_, b27_, b34_, s2_, s5_, s11_, s14_, s21_, s29_, s36_, m0_, m4_, m9_, m13_, m19_, m27_, m34_, (by rw [ha.out]; exact putSel_upk 37 hb_ rfl rfl rfl), Q_HW, fun _ h1_ => absurd ((hon 2 (by kernel_rfl)).symm.trans h1_) (by decide), fun _ h1_ => absurd ((hon 5 (by kernel_rfl)).symm.trans h1_) (by decide), fun _ _ h2_ => absurd ((hon 2 (by kernel_rfl)).symm.trans h2_) (by decide), fun _ h1_ => absurd ((hon 5 (by kernel_rfl)).symm.trans h1_) (by decide), fun _ h1_ => absurd ((hon 6 (by kernel_rfl)).symm.trans h1_) (by decide), fun _ h1_ => absurd ((hon 11 (by kernel_rfl)).symm.trans h1_) (by decide), fun _ h1_ => absurd ((hon 14 (by kernel_rfl)).symm.trans h1_) (by decide), fun _ _ h2_ => absurd ((hon 11 (by kernel_rfl)).symm.trans h2_) (by decide), fun _ h1_ => absurd ((hon 14 (by kernel_rfl)).symm.trans h1_) (by decide), fun _ h1_ => absurd ((hon 15 (by kernel_rfl)).symm.trans h1_) (by decide), fun _ h1_ => absurd ((hon 21 (by kernel_rfl)).symm.trans h1_) (by decide), fun _ h1_ => absurd ((hon 22 (by kernel_rfl)).symm.trans h1_) (by decide), fun _ h1_ => absurd ((hon 29 (by kernel_rfl)).symm.trans h1_) (by decide), fun _ h1_ => absurd ((hon 30 (by kernel_rfl)).symm.trans h1_) (by decide), fun _ h1_ => absurd ((hon 36 (by kernel_rfl)).symm.trans h1_) (by decide), fun _ h1_ => absurd ((hon 37 (by kernel_rfl)).symm.trans h1_) (by decide), Q_X0_, Q_X4_, Q_X9_, Q_X13_, Q_X19_, Q_X27_, Q_X34_⟩
            refine steps_cons ?_ ?_
            · rintro b a w' ⟨b0_, b4_, b9_, b13_, b19_, b27_, b34_, s2_, s5_, s11_, s14_, s21_, s29_, s36_, m0_, m4_, m9_, m13_, m19_, m27_, m34_, ha, Q_HW, Q_H0, Q_HS4, Q_HN0, Q_H2, Q_H5, Q_H9, Q_HS13, Q_HN9, Q_H11, Q_H14, Q_H19, Q_H21, Q_H27, Q_H29, Q_H34, Q_H36, Q_X0_, Q_X4_, Q_X9_, Q_X13_, Q_X19_, Q_X27_, Q_X34_⟩ hb_ hon hoff
              refine ⟨_, rfl, fun K hK => ?_⟩
              have e122 : a.tmps[122]? = some (.bool true) := by rw [ha]; exact putSel_on (e := (32, 122, .bool true)) 31 rfl rfl (hon 32 (by kernel_rfl)) rfl
              have e128 : a.tmps[128]? = some (.bool true) := by rw [ha]; exact putSel_on (e := (38, 128, .bool true)) 37 rfl rfl (hon 38 (by kernel_rfl)) rfl
              replace ha := Aside0.mk ha
              have HW := Aside0.mk Q_HW
              refine value_ (w1 := w') (v := .bool true) (by rfl) rfl ?_ ?_
              · go_simp
                (try simp only [i64_w])
                try rfl
              refine hK.out _ _ ⟨b0_, b4_, b9_, b13_, b19_, b27_, b34_, s2_, s5_, s11_, s14_, s21_, s29_, s36_, m0_, m4_, m9_, m13_, m19_, m27_, m34_, (by rw [ha.out]; exact putSel_upk 38 hb_ rfl rfl rfl), Q_HW, fun _ h1_ => absurd ((hon 2 (by kernel_rfl)).symm.trans h1_) (by decide), fun _ h1_ => absurd ((hon 5 (by kernel_rfl)).symm.trans h1_) (by decide), fun _ _ h2_ => absurd ((hon 2 (by kernel_rfl)).symm.trans h2_) (by decide), fun _ h1_ => absurd ((hon 5 (by kernel_rfl)).symm.trans h1_) (by decide), fun _ h1_ => absurd ((hon 6 (by kernel_rfl)).symm.trans h1_) (by decide), fun _ h1_ => absurd ((hon 11 (by kernel_rfl)).symm.trans h1_) (by decide), fun _ h1_ => absurd ((hon 14 (by kernel_rfl)).symm.trans h1_) (by decide), fun _ _ h2_ => absurd ((hon 11 (by kernel_rfl)).symm.trans h2_) (by decide), fun _ h1_ => absurd ((hon 14 (by kernel_rfl)).symm.trans h1_) (by decide), fun _ h1_ => absurd ((hon 15 (by kernel_rfl)).symm.trans h1_) (by decide), fun _ h1_ => absurd ((hon 21 (by kernel_rfl)).symm.trans h1_) (by decide), fun _ h1_ => absurd ((hon 22 (by kernel_rfl)).symm.trans h1_) (by decide), fun _ h1_ => absurd ((hon 29 (by kernel_rfl)).symm.trans h1_) (by decide), fun _ h1_ => absurd ((hon 30 (by kernel_rfl)).symm.trans h1_) (by decide), fun _ h1_ => absurd ((hon 36 (by kernel_rfl)).symm.trans h1_) (by decide), fun _ h1_ => absurd ((hon 37 (by kernel_rfl)).symm.trans h1_) (by decide), Q_X0_, Q_X4_, Q_X9_, Q_X13_, Q_X19_, Q_X27_, Q_X34_⟩
            refine steps_cons ?_ ?_
            · rintro b a w' ⟨b0_, b4_, b9_, b13_, b19_, b27_, b34_, s2_, s5_, s11_, s14_, s21_, s29_, s36_, m0_, m4_, m9_, m13_, m19_, m27_, m34_, ha, Q_HW, Q_H0, Q_HS4, Q_HN0, Q_H2, Q_H5, Q_H9, Q_HS13, Q_HN9, Q_H11, Q_H14, Q_H19, Q_H21, Q_H27, Q_H29, Q_H34, Q_H36, Q_X0_, Q_X4_, Q_X9_, Q_X13_, Q_X19_, Q_X27_, Q_X34_⟩ hb_ hon hoff
              refine ⟨_, rfl, fun K hK => ?_⟩
              have e129 : a.tmps[129]? = some (.bool true) := by rw [ha]; exact putSel_on (e := (39, 129, .bool true)) 38 rfl rfl (hon 39 (by kernel_rfl)) rfl
              replace ha := Aside0.mk ha
              have HW := Aside0.mk Q_HW
              refine value_ (w1 := w') (v := .bool true) (by rfl) rfl ?_ ?_
              · go_simp
                (try simp only [i64_w])
                try rfl
              refine hK.out _ _ ⟨b0_, b4_, b9_, b13_, b19_, b27_, b34_, s2_, s5_, s11_, s14_, s21_, s29_, s36_, m0_, m4_, m9_, m13_, m19_, m27_, m34_, (by rw [ha.out]; exact putSel_upk 39 hb_ rfl rfl rfl), Q_HW, fun _ h1_ => absurd ((hon 2 (by kernel_rfl)).symm.trans h1_) (by decide), fun _ h1_ => absurd ((hon 5 (by kernel_rfl)).symm.trans h1_) (by decide), fun _ _ h2_ => absurd ((hon 2 (by kernel_rfl)).symm.trans h2_) (by decide), fun _ h1_ => absurd ((hon 5 (by kernel_rfl)).symm.trans h1_) (by decide), fun _ h1_ => absurd ((hon 6 (by kernel_rfl)).symm.trans h1_) (by decide), fun _ h1_ => absurd ((hon 11 (by kernel_rfl)).symm.trans h1_) (by decide), fun _ h1_ => absurd ((hon 14 (by kernel_rfl)).symm.trans h1_) (by decide), fun _ _ h2_ => absurd ((hon 11 (by kernel_rfl)).symm.trans h2_) (by decide), fun _ h1_ => absurd ((hon 14 (by kernel_rfl)).symm.trans h1_) (by decide), fun _ h1_ => absurd ((hon 15 (by kernel_rfl)).symm.trans h1_) (by decide), fun _ h1_ => absurd ((hon 21 (by kernel_rfl)).symm.trans h1_) (by decide), fun _ h1_ => absurd ((hon 22 (by kernel_rfl)).symm.trans h1_) (by decide), fun _ h1_ => absurd ((hon 29 (by kernel_rfl)).symm.trans h1_) (by decide), fun _ h1_ => absurd ((hon 30 (by kernel_rfl)).symm.trans h1_) (by decide), fun _ h1_ => absurd ((hon 36 (by kernel_rfl)).symm.trans h1_) (by decide), fun _ h1_ => absurd ((hon 37 (by kernel_rfl)).symm.trans h1_) (by decide), Q_X0_, Q_X4_, Q_X9_, Q_X13_, Q_X19_, Q_X27_, Q_X34_⟩
            refine steps_cons ?_ ?_
            · rintro b a w' ⟨b0_, b4_, b9_, b13_, b19_, b27_, b34_, s2_, s5_, s11_, s14_, s21_, s29_, s36_, m0_, m4_, m9_, m13_, m19_, m27_, m34_, ha, Q_HW, Q_H0, Q_HS4, Q_HN0, Q_H2, Q_H5, Q_H9, Q_HS13, Q_HN9, Q_H11, Q_H14, Q_H19, Q_H21, Q_H27, Q_H29, Q_H34, Q_H36, Q_X0_, Q_X4_, Q_X9_, Q_X13_, Q_X19_, Q_X27_, Q_X34_⟩ hb_ hon hoff
              refine ⟨_, rfl, fun K hK => ?_⟩
              have e130 : a.tmps[130]? = some (.bool true) := by rw [ha]; exact putSel_on (e := (40, 130, .bool true)) 39 rfl rfl (hon 40 (by kernel_rfl)) rfl
              replace ha := Aside0.mk ha
              have HW := Aside0.mk Q_HW
              refine goes_ Try.func3 (by kernel_rfl) rfl #[] (wanted_on rfl rfl rfl e130) rfl rfl (by simp only [List.map_toArray, List.map_cons, List.map_nil, Act.eval, Array.getD_eq_getD_getElem?, Option.getD_some]) ?_
              refine (runs_calls w').mono ?_
              rintro e w2 ⟨he, hB⟩
              subst he
              refine ⟨_, rfl, ?_⟩
              refine hK.out _ _ ⟨b0_, b4_, b9_, b13_, b19_, b27_, b34_, s2_, s5_, s11_, s14_, s21_, s29_, s36_, m0_, m4_, m9_, m13_, m19_, m27_, m34_, (by rw [ha.out]; exact putSel_upk 40 hb_ rfl rfl rfl), below_step HW.out hB, fun _ h1_ => absurd ((hon 2 (by kernel_rfl)).symm.trans h1_) (by decide), fun _ h1_ => absurd ((hon 5 (by kernel_rfl)).symm.trans h1_) (by decide), fun _ _ h2_ => absurd ((hon 2 (by kernel_rfl)).symm.trans h2_) (by decide), fun _ h1_ => absurd ((hon 5 (by kernel_rfl)).symm.trans h1_) (by decide), fun _ h1_ => absurd ((hon 6 (by kernel_rfl)).symm.trans h1_) (by decide), fun _ h1_ => absurd ((hon 11 (by kernel_rfl)).symm.trans h1_) (by decide), fun _ h1_ => absurd ((hon 14 (by kernel_rfl)).symm.trans h1_) (by decide), fun _ _ h2_ => absurd ((hon 11 (by kernel_rfl)).symm.trans h2_) (by decide), fun _ h1_ => absurd ((hon 14 (by kernel_rfl)).symm.trans h1_) (by decide), fun _ h1_ => absurd ((hon 15 (by kernel_rfl)).symm.trans h1_) (by decide), fun _ h1_ => absurd ((hon 21 (by kernel_rfl)).symm.trans h1_) (by decide), fun _ h1_ => absurd ((hon 22 (by kernel_rfl)).symm.trans h1_) (by decide), fun _ h1_ => absurd ((hon 29 (by kernel_rfl)).symm.trans h1_) (by decide), fun _ h1_ => absurd ((hon 30 (by kernel_rfl)).symm.trans h1_) (by decide), fun _ h1_ => absurd ((hon 36 (by kernel_rfl)).symm.trans h1_) (by decide), fun _ h1_ => absurd ((hon 37 (by kernel_rfl)).symm.trans h1_) (by decide), Q_X0_, Q_X4_, Q_X9_, Q_X13_, Q_X19_, Q_X27_, Q_X34_⟩
            refine steps_cons ?_ ?_
            · rintro b a w' ⟨b0_, b4_, b9_, b13_, b19_, b27_, b34_, s2_, s5_, s11_, s14_, s21_, s29_, s36_, m0_, m4_, m9_, m13_, m19_, m27_, m34_, ha, Q_HW, Q_H0, Q_HS4, Q_HN0, Q_H2, Q_H5, Q_H9, Q_HS13, Q_HN9, Q_H11, Q_H14, Q_H19, Q_H21, Q_H27, Q_H29, Q_H34, Q_H36, Q_X0_, Q_X4_, Q_X9_, Q_X13_, Q_X19_, Q_X27_, Q_X34_⟩ hb_ hon hoff
              refine ⟨_, rfl, fun K hK => ?_⟩
              have e130 : a.tmps[130]? = some (.bool true) := by rw [ha]; exact putSel_on (e := (40, 130, .bool true)) 39 rfl rfl (hon 40 (by kernel_rfl)) rfl
              have e131 : a.tmps[131]? = some (.bool true) := by rw [ha]; exact putSel_on (e := (41, 131, .bool true)) 40 rfl rfl (hon 41 (by kernel_rfl)) rfl
              replace ha := Aside0.mk ha
              have HW := Aside0.mk Q_HW
              refine value_ (w1 := w') (v := .bool true) (by rfl) rfl ?_ ?_
              · go_simp
                (try simp only [i64_w])
                try rfl
              refine hK.out _ _ ⟨b0_, b4_, b9_, b13_, b19_, b27_, b34_, s2_, s5_, s11_, s14_, s21_, s29_, s36_, m0_, m4_, m9_, m13_, m19_, m27_, m34_, (by rw [ha.out]; exact putSel_upk 41 hb_ rfl rfl rfl), Q_HW, fun _ h1_ => absurd ((hon 2 (by kernel_rfl)).symm.trans h1_) (by decide), fun _ h1_ => absurd ((hon 5 (by kernel_rfl)).symm.trans h1_) (by decide), fun _ _ h2_ => absurd ((hon 2 (by kernel_rfl)).symm.trans h2_) (by decide), fun _ h1_ => absurd ((hon 5 (by kernel_rfl)).symm.trans h1_) (by decide), fun _ h1_ => absurd ((hon 6 (by kernel_rfl)).symm.trans h1_) (by decide), fun _ h1_ => absurd ((hon 11 (by kernel_rfl)).symm.trans h1_) (by decide), fun _ h1_ => absurd ((hon 14 (by kernel_rfl)).symm.trans h1_) (by decide), fun _ _ h2_ => absurd ((hon 11 (by kernel_rfl)).symm.trans h2_) (by decide), fun _ h1_ => absurd ((hon 14 (by kernel_rfl)).symm.trans h1_) (by decide), fun _ h1_ => absurd ((hon 15 (by kernel_rfl)).symm.trans h1_) (by decide), fun _ h1_ => absurd ((hon 21 (by kernel_rfl)).symm.trans h1_) (by decide), fun _ h1_ => absurd ((hon 22 (by kernel_rfl)).symm.trans h1_) (by decide), fun _ h1_ => absurd ((hon 29 (by kernel_rfl)).symm.trans h1_) (by decide), fun _ h1_ => absurd ((hon 30 (by kernel_rfl)).symm.trans h1_) (by decide), fun _ h1_ => absurd ((hon 36 (by kernel_rfl)).symm.trans h1_) (by decide), fun _ h1_ => absurd ((hon 37 (by kernel_rfl)).symm.trans h1_) (by decide), Q_X0_, Q_X4_, Q_X9_, Q_X13_, Q_X19_, Q_X27_, Q_X34_⟩
            refine steps_cons ?_ ?_
            · rintro b a w' ⟨b0_, b4_, b9_, b13_, b19_, b27_, b34_, s2_, s5_, s11_, s14_, s21_, s29_, s36_, m0_, m4_, m9_, m13_, m19_, m27_, m34_, ha, Q_HW, Q_H0, Q_HS4, Q_HN0, Q_H2, Q_H5, Q_H9, Q_HS13, Q_HN9, Q_H11, Q_H14, Q_H19, Q_H21, Q_H27, Q_H29, Q_H34, Q_H36, Q_X0_, Q_X4_, Q_X9_, Q_X13_, Q_X19_, Q_X27_, Q_X34_⟩ hb_ hon hoff
              refine ⟨_, rfl, fun K hK => ?_⟩
              have e132 : a.tmps[132]? = some (.bool true) := by rw [ha]; exact putSel_on (e := (42, 132, .bool true)) 41 rfl rfl (hon 42 (by kernel_rfl)) rfl
              replace ha := Aside0.mk ha
              have HW := Aside0.mk Q_HW
              refine value_ (w1 := w') (v := .bool true) (by rfl) rfl ?_ ?_
              · go_simp
                (try simp only [i64_w])
                try rfl
              refine hK.out _ _ ⟨b0_, b4_, b9_, b13_, b19_, b27_, b34_, s2_, s5_, s11_, s14_, s21_, s29_, s36_, m0_, m4_, m9_, m13_, m19_, m27_, m34_, (by rw [ha.out]; exact putSel_upk 42 hb_ rfl rfl rfl), Q_HW, fun _ h1_ => absurd ((hon 2 (by kernel_rfl)).symm.trans h1_) (by decide), fun _ h1_ => absurd ((hon 5 (by kernel_rfl)).symm.trans h1_) (by decide), fun _ _ h2_ => absurd ((hon 2 (by kernel_rfl)).symm.trans h2_) (by decide), fun _ h1_ => absurd ((hon 5 (by kernel_rfl)).symm.trans h1_) (by decide), fun _ h1_ => absurd ((hon 6 (by kernel_rfl)).symm.trans h1_) (by decide), fun _ h1_ => absurd ((hon 11 (by kernel_rfl)).symm.trans h1_) (by decide), fun _ h1_ => absurd ((hon 14 (by kernel_rfl)).symm.trans h1_) (by decide), fun _ _ h2_ => absurd ((hon 11 (by kernel_rfl)).symm.trans h2_) (by decide), fun _ h1_ => absurd ((hon 14 (by kernel_rfl)).symm.trans h1_) (by decide), fun _ h1_ => absurd ((hon 15 (by kernel_rfl)).symm.trans h1_) (by decide), fun _ h1_ => absurd ((hon 21 (by kernel_rfl)).symm.trans h1_) (by decide), fun _ h1_ => absurd ((hon 22 (by kernel_rfl)).symm.trans h1_) (by decide), fun _ h1_ => absurd ((hon 29 (by kernel_rfl)).symm.trans h1_) (by decide), fun _ h1_ => absurd ((hon 30 (by kernel_rfl)).symm.trans h1_) (by decide), fun _ h1_ => absurd ((hon 36 (by kernel_rfl)).symm.trans h1_) (by decide), fun _ h1_ => absurd ((hon 37 (by kernel_rfl)).symm.trans h1_) (by decide), Q_X0_, Q_X4_, Q_X9_, Q_X13_, Q_X19_, Q_X27_, Q_X34_⟩
            exact steps_nil
          · rintro b a w' hall ⟨b0_, b4_, b9_, b13_, b19_, b27_, b34_, s2_, s5_, s11_, s14_, s21_, s29_, s36_, m0_, m4_, m9_, m13_, m19_, m27_, m34_, ha, Q_HW, Q_H0, Q_HS4, Q_HN0, Q_H2, Q_H5, Q_H9, Q_HS13, Q_HN9, Q_H11, Q_H14, Q_H19, Q_H21, Q_H27, Q_H29, Q_H34, Q_H36, Q_X0_, Q_X4_, Q_X9_, Q_X13_, Q_X19_, Q_X27_, Q_X34_⟩
            clear HW
            have hb0_ := hall 0 (by kernel_rfl)
            have hb2_ := hall 2 (by kernel_rfl)
            have hb3_ := hall 3 (by kernel_rfl)
            have hb4_ := hall 4 (by kernel_rfl)
            have hb5_ := hall 5 (by kernel_rfl)
            have hb6_ := hall 6 (by kernel_rfl)
            have hb7_ := hall 7 (by kernel_rfl)
            have hb8_ := hall 8 (by kernel_rfl)
            have hb9_ := hall 9 (by kernel_rfl)
            have hb10_ := hall 10 (by kernel_rfl)
            have hb11_ := hall 11 (by kernel_rfl)
            have hb12_ := hall 12 (by kernel_rfl)
            have hb13_ := hall 13 (by kernel_rfl)
            have hb14_ := hall 14 (by kernel_rfl)
            have hb15_ := hall 15 (by kernel_rfl)
            have hb16_ := hall 16 (by kernel_rfl)
            have hb17_ := hall 17 (by kernel_rfl)
            have hb18_ := hall 18 (by kernel_rfl)
            have hb19_ := hall 19 (by kernel_rfl)
            have hb20_ := hall 20 (by kernel_rfl)
            have hb21_ := hall 21 (by kernel_rfl)
            have hb22_ := hall 22 (by kernel_rfl)
            have hb23_ := hall 23 (by kernel_rfl)
            have hb24_ := hall 24 (by kernel_rfl)
            have hb25_ := hall 25 (by kernel_rfl)
            have hb26_ := hall 26 (by kernel_rfl)
            have hb27_ := hall 27 (by kernel_rfl)
            have hb28_ := hall 28 (by kernel_rfl)
            have hb29_ := hall 29 (by kernel_rfl)
            have hb30_ := hall 30 (by kernel_rfl)
            have hb31_ := hall 31 (by kernel_rfl)
            have hb32_ := hall 32 (by kernel_rfl)
            have hb33_ := hall 33 (by kernel_rfl)
            have hb34_ := hall 34 (by kernel_rfl)
            have hb35_ := hall 35 (by kernel_rfl)
            have hb36_ := hall 36 (by kernel_rfl)
            have hb37_ := hall 37 (by kernel_rfl)
            have hb38_ := hall 38 (by kernel_rfl)
            have hb39_ := hall 39 (by kernel_rfl)
            have hb40_ := hall 40 (by kernel_rfl)
            have hb41_ := hall 41 (by kernel_rfl)
            have hb42_ := hall 42 (by kernel_rfl)
            have hb43_ := hall 43 (by kernel_rfl)
            subst ha
            obtain rfl := Q_X0_ hb0_
            obtain rfl := Q_X4_ hb4_
            obtain rfl := Q_X9_ hb9_
            obtain rfl := Q_X13_ hb13_
            obtain rfl := Q_X19_ hb19_
            obtain rfl := Q_X27_ hb27_
            obtain rfl := Q_X34_ hb34_
            simp only [putSel, hb0_, hb2_, hb3_, hb4_, hb5_, hb6_, hb7_, hb8_, hb9_, hb10_, hb11_, hb12_, hb13_, hb14_, hb15_, hb16_, hb17_, hb18_, hb19_, hb20_, hb21_, hb22_, hb23_, hb24_, hb25_, hb26_, hb27_, hb28_, hb29_, hb30_, hb31_, hb32_, hb33_, hb34_, hb35_, hb36_, hb37_, hb38_, hb39_, hb40_, hb41_, hb42_, hb43_, if_true, Act.put, List.setIfInBounds_toArray, List.set_cons_zero, List.set_cons_succ]
            have HW := Aside0.mk Q_HW
            clear Q_HW
            clear Q_H0
            clear Q_HS4
            clear Q_HN0
            clear Q_H2
            clear Q_H5
            clear Q_H9
            clear Q_HS13
            clear Q_HN9
            clear Q_H11
            clear Q_H14
            clear Q_H19
            clear Q_H21
            clear Q_H27
            clear Q_H29
            clear Q_H34
            clear Q_H36
            clear hall hb0_ hb2_ hb3_ hb4_ hb5_ hb6_ hb7_ hb8_ hb9_ hb10_ hb11_ hb12_ hb13_ hb14_ hb15_ hb16_ hb17_ hb18_ hb19_ hb20_ hb21_ hb22_ hb23_ hb24_ hb25_ hb26_ hb27_ hb28_ hb29_ hb30_ hb31_ hb32_ hb33_ hb34_ hb35_ hb36_ hb37_ hb38_ hb39_ hb40_ hb41_ hb42_ hb43_
            go_wp2
            go_ret
            exact ⟨rfl, below_step HB.out HW.out⟩
end Go.Proofs.Ytcbaclmijdoenaa.Lg

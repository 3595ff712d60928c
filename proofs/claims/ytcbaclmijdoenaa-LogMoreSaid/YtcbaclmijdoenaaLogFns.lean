/-
  The functions of package log: Single, Of, To, Tree: what each call comes to.
-/
import Derived.Test.YtcbaclmijdoenaaLogBase
namespace Go.Proofs.Ytcbaclmijdoenaa.Lg
open Go.RowKit Go.ChangeShapes Go.Proofs.YtcbaclmijdoenaaW.PrintWords Go.Proofs.YtcbaclmijdoenaaW.PrintLast Go.Proofs.YtcbaclmijdoenaaW.PrintMore
set_option linter.unusedVariables false
set_option linter.unusedSimpArgs false

/-! ### Deliveries -/
abbrev Gt := Int × Int × Int
abbrev Dl := Int × Int × Int × (Option Addr × Nat × Nat)
def gtV (x : Gt) : Value := .agg #[.int .i64 x.1, .int .i64 x.2.1, .int .i64 x.2.2]
def GtOk (x : Gt) : Prop := InI64 x.1 ∧ InI64 x.2.1 ∧ InI64 x.2.2
def gt (x : Dl) : Gt := (x.1, x.2.1, x.2.2.1)
def kDl : Kd Dl := flat 4 (fun x => [.int .i64 x.1, .int .i64 x.2.1, .int .i64 x.2.2.1, .slice x.2.2.2.1 x.2.2.2.2.1 x.2.2.2.2.2]) (fun _ => rfl) (by intro x u hu; simp at hu; rcases hu with rfl | rfl | rfl | rfl <;> rfl)
theorem gtV_inj (x y : Gt) (_ : GtOk x) (_ : GtOk y) (h : gtV x = gtV y) : x = y := by
  obtain ⟨a, b, c⟩ := x
  obtain ⟨a', b', c'⟩ := y
  simp [gtV] at h
  simp [h]
theorem at_Dl {w : World} {A : Option Addr} {n : Nat} {xs : List Dl} (h : Kd.C kDl w A n xs) (i : Nat) (h1 : i < n) : ∃ (ad : Addr) (x : Dl), A = some ad ∧ xs[i]? = some x ∧ w.cell? (ad.add (i * 4)) = some (.int .i64 x.1) ∧
    w.cell? ⟨(ad.add (i * 4)).block, (ad.add (i * 4)).off + 1, none⟩ = some (.int .i64 x.2.1) ∧ w.cell? ⟨(ad.add (i * 4)).block, (ad.add (i * 4)).off + 2, none⟩ = some (.int .i64 x.2.2.1) ∧ w.cell? ⟨(ad.add (i * 4)).block, (ad.add (i * 4)).off + 3, none⟩ = some (.slice x.2.2.2.1 x.2.2.2.2.1 x.2.2.2.2.2) := by
  obtain ⟨ad, e, hc⟩ := h.2.2 (by omega)
  have hl : i < xs.length := by have := h.1; omega
  obtain ⟨c, hs, hr, hcell⟩ := hc i _ (List.getElem?_eq_getElem hl)
  have hr' : c = [.int .i64 xs[i].1, .int .i64 xs[i].2.1, .int .i64 xs[i].2.2.1, .slice xs[i].2.2.2.1 xs[i].2.2.2.2.1 xs[i].2.2.2.2.2] := hr
  subst hr'
  have hcell' : ∀ j u, [Value.int .i64 xs[i].1, .int .i64 xs[i].2.1, .int .i64 xs[i].2.2.1, .slice xs[i].2.2.2.1 xs[i].2.2.2.2.1 xs[i].2.2.2.2.2][j]? = some u → w.cell? (ad.add (i * 4 + j)) = some u := hcell
  exact ⟨ad, xs[i], e, List.getElem?_eq_getElem hl, hcell' 0 _ rfl, by rw [← add_field _ _ 1 (by omega)]; exact hcell' 1 _ rfl, by rw [← add_field _ _ 2 (by omega)]; exact hcell' 2 _ rfl, by rw [← add_field _ _ 3 (by omega)]; exact hcell' 3 _ rfl⟩

set_option maxHeartbeats 1600000 in
theorem single_calls (A : Option Addr) (c : Nat) (xs : List Dl) (w : World) (hr : Kd.C kDl w A xs.length xs) (hok : ∀ x ∈ xs, GtOk (gt x)) (hm : xs.length ≤ 1000000) :
    Calls Try.prog 10 #[.slice A xs.length c] w fun e w' => e = .returned (.bool (decide (xs.map gt).Nodup)) ∧ Below w.heap.size w w' := by
  have HR := Aside0.mk hr
  have HK := Aside0.mk hok
  clear hr hok
  have hmm := @run_makeMap Try.prog
  go_enter Try.func10, Try.ntmps10
  go_wp2
  clear hmm
  go_loopw [10] (fun i wr => ∃ k : Nat, k ≤ xs.length ∧ i = .int .i64 k ∧ Aside0 (OwnSet 52 4 gtV GtOk wr w.heap.size k (fun x => x ∈ (xs.take k).map gt)) ∧ Aside0 ((xs.take k).map gt).Nodup ∧ Aside0 (Below w.heap.size w wr)) (fun i _ => xs.length - (intOf i).toNat)
  case atStart => exact ⟨0, Nat.zero_le _, rfl, ⟨by simpa using OwnSet.made w⟩, ⟨by simp⟩, ⟨below_alloc (Below.refl _ _) _⟩⟩
  case round =>
    obtain ⟨k, hk, rfl, HS, HN, HB⟩ := hrel
    by_cases hlt : k < xs.length
    · obtain ⟨ad, x, rfl, hx, d0, d1, d2, d3⟩ := at_Dl HR.out k hlt
      replace d0 := cells_at HB.out d0
      replace d1 := cells_at HB.out d1
      replace d2 := cells_at HB.out d2
      replace d3 := cells_at HB.out d3
      have hxm : x ∈ xs := List.mem_of_getElem? hx
      have hV := HK.out x hxm
      obtain ⟨l, hl⟩ := gotKey (gt x) hV
      have HTK : Hid ((xs.take (k + 1)).map gt = (xs.take k).map gt ++ [gt x]) := Lib.hid (by rw [List.take_add_one, hx]; simp)
      clear hx hxm
      have HS1 := Aside0.mk ((HS.out.alloc (.cells #[.int .i64 x.1, .int .i64 x.2.1, .int .i64 x.2.2.1, .slice x.2.2.2.1 x.2.2.2.2.1 x.2.2.2.2.2] 39)).alloc (.cells #[.int .i64 x.1, .int .i64 x.2.1, .int .i64 x.2.2.1] 52))
      have HD := Aside0.mk (below_alloc (below_alloc HB.out (.cells #[.int .i64 x.1, .int .i64 x.2.1, .int .i64 x.2.2.1, .slice x.2.2.2.1 x.2.2.2.2.1 x.2.2.2.2.2] 39)) (.cells #[.int .i64 x.1, .int .i64 x.2.1, .int .i64 x.2.2.1] 52))
      obtain ⟨r, hlk, hrs⟩ := HS1.out.lookup (t := 50) gotKeyed Try.underlying50 Try.underlying4 (by kernel_rfl) hV hl
      have HV := Aside0.mk hV
      have HL := Aside0.mk hl
      have HRS := Aside0.mk hrs
      clear hV hl hrs
      simp only [gtV, gt] at hlk
      cases r with
      | true =>
        have hf : decide (xs.map gt).Nodup = false := by
          rw [decide_eq_false_iff_not]
          intro hn
          have h2 := hn.sublist ((List.take_sublist (k + 1) xs).map gt)
          rw [HTK.out, List.nodup_append] at h2
          exact h2.2.2 _ (HRS.out.1 rfl) _ (by simp) rfl
        have HF := Lib.hid hf
        clear hf
        go_wp2
        go_ret
        exact ⟨by rw [HF.out]; rfl, HD.out⟩
      | false =>
        go_wp2_with (first | (at_mapUpdate; refine wpList_set_put rfl _ _ _ rfl gotKeyed Try.underlying50 Try.underlying4 rfl HS1.out (by unfold maxLen; omega) rfl (x := gt x) rfl HV.out l HL.out gtV_inj ?_; intro w1 hs1 hg1; have HS2 := Aside0.mk hs1; have HB2 := Aside0.mk (pw_below_grown HD.out _ HD.out.size hg1 (fun j hj => by injection hj with hj; omega)); clear hs1 hg1))
        go_roundw
        case rel => exact ⟨k + 1, by omega, by go_num, ⟨by rw [HTK.out]; simpa [or_comm] using HS2.out⟩, ⟨by rw [HTK.out, List.nodup_append]; exact ⟨HN.out, by simp, fun y hy z hz => by simp only [List.mem_singleton] at hz; subst hz; intro e; subst e; exact absurd (HRS.out.2 hy) (by simp)⟩⟩, HB2⟩
        case measure => simp [intOf]; omega
    · obtain rfl : k = xs.length := by omega
      have hf : decide (xs.map gt).Nodup = true := by
        have := HN.out
        rw [List.take_length] at this
        simpa using this
      have HF := Lib.hid hf
      clear hf
      go_wp2
      go_ret
      exact ⟨by rw [HF.out]; rfl, HB.out⟩

/-! ### Links -/
abbrev Pr := Int × Int
def kPr : Kd Pr := flat 2 (fun x => [.int .i64 x.1, .int .i64 x.2]) (fun _ => rfl) (by intro x u hu; simp at hu; rcases hu with rfl | rfl <;> rfl)
theorem infoPr : (Try.prog.info? 46).map (fun i => (i.zero, i.size, i.bytes)) = some (some (.agg #[.int .i64 0, .int .i64 0]), 2, 16) := by kernel_rfl
def ofL (xs : List Cr) (p : Int × Int) : List Pr := (xs.filter fun x => decide (x.2.2 = p)).map fun x => (x.1, x.2.1)
theorem ofL_len (xs : List Cr) (p : Int × Int) : (ofL xs p).length ≤ xs.length := by unfold ofL; rw [List.length_map]; exact List.length_filter_le _ _
theorem ofL_snoc_yes (xs : List Cr) (x : Cr) (p : Int × Int) (h : x.2.2 = p) : ofL (xs ++ [x]) p = ofL xs p ++ [(x.1, x.2.1)] := by simp [ofL, List.filter_append, h]
theorem ofL_snoc_no (xs : List Cr) (x : Cr) (p : Int × Int) (h : ¬ x.2.2 = p) : ofL (xs ++ [x]) p = ofL xs p := by simp [ofL, List.filter_append, h]

set_option maxHeartbeats 1600000 in
theorem of_calls (A : Option Addr) (c : Nat) (xs : List Cr) (p : Int × Int) (w : World) (hr : Kd.C kCr w A xs.length xs) (hm : xs.length ≤ 1000000) :
    Calls Try.prog 12 #[.slice A xs.length c, .agg #[.int .i64 p.1, .int .i64 p.2]] w fun e w' => ∃ v, e = .returned v ∧ Kd.R kPr 46 w' w.heap.size (fun _ => True) v (ofL xs p) ∧ Below w.heap.size w w' := by
  have HR := Aside0.mk hr
  clear hr
  go_enter Try.func12, Try.ntmps12
  go_wp2
  go_loopw [5, 10] (fun v i wr => ∃ k : Nat, k ≤ xs.length ∧ i = .int .i64 k ∧ Aside0 (Kd.R kPr 46 wr w.heap.size (fun _ => True) v (ofL (xs.take k) p)) ∧ Aside0 (wr.heap[w.heap.size]? = some (.cells #[.int .i64 p.1, .int .i64 p.2] 23 (0, 0))) ∧ Aside0 (Below w.heap.size w wr)) (fun _ i _ => xs.length - (intOf i).toNat)
  case atStart => exact ⟨0, Nat.zero_le _, rfl, ⟨Kd.R_nil _ _ _ _ _⟩, ⟨blk_new w _⟩, ⟨below_alloc (Below.refl _ _) _⟩⟩
  case round =>
    obtain ⟨k, hk, rfl, HO, HP, HB⟩ := hrel
    by_cases hlt : k < xs.length
    · obtain ⟨ad, x, rfl, hx, d0, d1, d2, d3⟩ := at_Cr HR.out k hlt
      replace d0 := cells_at HB.out d0
      replace d1 := cells_at HB.out d1
      replace d2 := cells_at HB.out d2
      replace d3 := cells_at HB.out d3
      have HTK : Hid (xs.take (k + 1) = xs.take k ++ [x]) := Lib.hid (by rw [List.take_add_one, hx]; rfl)
      have hll : (ofL (xs.take k) p).length ≤ 1000000 := by have := ofL_len (xs.take k) p; rw [List.length_take] at this; omega
      have HLL := Lib.hid hll
      clear hx hll
      have p0 := blk_cell HP.out 0
      have p1 := blk_cell HP.out 1
      have hpl := blk_lt HP.out
      by_cases hc : x.2.2.1 = p.1
      · by_cases hs : x.2.2.2 = p.2
        · have HY : Hid (ofL (xs.take k ++ [x]) p = ofL (xs.take k) p ++ [(x.1, x.2.1)]) := Lib.hid (ofL_snoc_yes _ x p (Prod.ext hc hs))
          rw [hc] at d2
          rw [hs] at d3
          clear hc hs
          have HP1 := Aside0.mk (blk_alloc HP.out (.cells #[.int .i64 x.1, .int .i64 x.2.1, .int .i64 p.1, .int .i64 p.2] 25))
          have HB1 := Aside0.mk (below_alloc HB.out (.cells #[.int .i64 x.1, .int .i64 x.2.1, .int .i64 p.1, .int .i64 p.2] 25))
          go_wp2_with (first | ((with_reducible refine gate_builtin (b := .append) (xs := #[.tmp 18, .tmp 24]) rfl ?_); at_builtin; refine Kd.R_append (kPr) (w0 := w) (w.heap.size) rfl (.tmp 18) (.tmp 24) 33 46 (.agg #[.int .i64 0, .int .i64 0]) 16 rfl Try.underlying33 infoPr rfl (by decide) (by omega) (u5) (ofL (xs.take k) p) ((x.1, x.2.1)) [.int .i64 x.1, .int .i64 x.2.1] (fun _ => True) (fun _ => False) rfl ?aX ?aP (fun _ hk => hk.elim) ?aF ?aO ?aB ?aS ?aL ?_; (case aX => first | rfl | (simp [Act.eval]; done)); (case aP => exact rfl); (case aB => exact (by repeat (with_reducible first | exact HB1.out | apply below_alloc | apply pw_below_drewN | apply below_drew1))); (case aF => exact (fun _ _ => trivial)); (case aO => exact (by (with_reducible repeat (first | apply Kd.R_alloc | apply Kd.R_drewN | apply Kd.R_drew)); exact HO.out)); (case aS => exact (below_size (by repeat (with_reducible first | exact HB1.out | apply below_alloc | apply pw_below_drewN | apply below_drew1)))); (case aL => have := HLL.out; omega); intro v1 w1 ho hb hg hat; have HO3 := Aside0.mk ho; have HB3 := Aside0.mk hb; have HP3 := Aside0.mk (blk_grown HP1.out hg (Kd.R_ne HO.out HP.out (by decide))); clear ho hb hg hat))
          go_roundw
          case rel => exact ⟨k + 1, by omega, by go_num, ⟨by rw [HTK.out, HY.out]; exact HO3.out⟩, HP3, HB3⟩
          case measure => simp [intOf]; omega
        · have HY : Hid (ofL (xs.take k ++ [x]) p = ofL (xs.take k) p) := Lib.hid (ofL_snoc_no _ x p (fun h => hs (by rw [← h])))
          rw [hc] at d2
          have hsb : (x.2.2.2 == p.2) = false := by simpa using hs
          clear hc hs
          go_wp2
          go_roundw
          case rel => exact ⟨k + 1, by omega, by go_num, ⟨by rw [HTK.out, HY.out]; exact Kd.R_alloc HO.out _⟩, ⟨blk_alloc HP.out _⟩, ⟨below_alloc HB.out _⟩⟩
          case measure => simp [intOf]; omega
      · have HY : Hid (ofL (xs.take k ++ [x]) p = ofL (xs.take k) p) := Lib.hid (ofL_snoc_no _ x p (fun h => hc (by rw [← h])))
        have hcb : (x.2.2.1 == p.1) = false := by simpa using hc
        clear hc
        go_wp2
        go_roundw
        case rel => exact ⟨k + 1, by omega, by go_num, ⟨by rw [HTK.out, HY.out]; exact Kd.R_alloc HO.out _⟩, ⟨blk_alloc HP.out _⟩, ⟨below_alloc HB.out _⟩⟩
        case measure => simp [intOf]; omega
    · obtain rfl : k = xs.length := by omega
      have HO1 : Aside0 (Kd.R kPr 46 wr w.heap.size (fun _ => True) u5 (ofL xs p)) := ⟨by have := HO.out; rwa [List.take_length] at this⟩
      go_wp2
      go_ret
      exact ⟨_, rfl, HO1.out, HB.out⟩

/-! ### Trees -/
def treeL : List Int → List Pr → Bool
  | _, [] => true
  | S, (a, b) :: r => if a ∈ S ∧ b ∉ S then treeL (b :: S) r else false
theorem treeL_cons (S : List Int) (x : Pr) (r : List Pr) : treeL S (x :: r) = if x.1 ∈ S ∧ x.2 ∉ S then treeL (x.2 :: S) r else false := by cases x; rfl
theorem at_Pr {w : World} {A : Option Addr} {n : Nat} {xs : List Pr} (h : Kd.C kPr w A n xs) (i : Nat) (h1 : i < n) : ∃ (ad : Addr) (x : Pr), A = some ad ∧ xs[i]? = some x ∧ w.cell? (ad.add (i * 2)) = some (.int .i64 x.1) ∧
    w.cell? ⟨(ad.add (i * 2)).block, (ad.add (i * 2)).off + 1, none⟩ = some (.int .i64 x.2) := by
  obtain ⟨ad, e, hc⟩ := h.2.2 (by omega)
  have hl : i < xs.length := by have := h.1; omega
  obtain ⟨c, hs, hr, hcell⟩ := hc i _ (List.getElem?_eq_getElem hl)
  have hr' : c = [.int .i64 xs[i].1, .int .i64 xs[i].2] := hr
  subst hr'
  have hcell' : ∀ j u, [Value.int .i64 xs[i].1, .int .i64 xs[i].2][j]? = some u → w.cell? (ad.add (i * 2 + j)) = some u := hcell
  exact ⟨ad, xs[i], e, List.getElem?_eq_getElem hl, hcell' 0 _ rfl, by rw [← add_field _ _ 1 (by omega)]; exact hcell' 1 _ rfl⟩
theorem int_inj (x y : Int) (_ : InI64 x) (_ : InI64 y) (h : Value.int .i64 x = Value.int .i64 y) : x = y := by injection h
theorem ofL_ok {xs : List Cr} {p : Int × Int} (h : ∀ x ∈ xs, CrOk x) : ∀ x ∈ ofL xs p, InI64 x.1 ∧ InI64 x.2 := by
  intro x hx
  simp only [ofL, List.mem_map, List.mem_filter] at hx
  obtain ⟨y, ⟨hy, _⟩, rfl⟩ := hx
  exact ⟨(h y hy).1, (h y hy).2.1⟩

set_option maxHeartbeats 1600000 in
theorem tree_calls (A : Option Addr) (c : Nat) (xs : List Cr) (p : Int × Int) (root : Int) (w : World) (hr : Kd.C kCr w A xs.length xs) (hok : ∀ x ∈ xs, CrOk x) (hro : InI64 root) (hm : xs.length ≤ 1000000) :
    Calls Try.prog 7 #[.slice A xs.length c, .agg #[.int .i64 p.1, .int .i64 p.2], .int .i64 root] w fun e w' => e = .returned (.bool (treeL [root] (ofL xs p))) ∧ Below w.heap.size w w' := by
  have HR := Aside0.mk hr
  have HK := Aside0.mk (ofL_ok (p := p) hok)
  have HRO := Aside0.mk hro
  have HLE := Aside0.mk (ofL_len xs p)
  clear hr hok hro
  have hmm := @run_makeMap Try.prog
  have HB0 := Aside0.mk (below_alloc (below_alloc (Below.refl w.heap.size w) (.cells #[.int .i64 p.1, .int .i64 p.2] 23)) (.map #[] 0))
  have HS0 := Aside0.mk (OwnSet.made (k := 3) (e := 4) (enc := Value.int .i64) (V := InI64) (w.alloc (.cells #[.int .i64 p.1, .int .i64 p.2] 23)))
  have HP0 := Aside0.mk (blk_alloc (blk_new w (.cells #[.int .i64 p.1, .int .i64 p.2] 23)) (.map #[] 0))
  have HC0 := Aside0.mk (Kd.C_below HR.out HB0.out)
  have hsz : (w.alloc (.cells #[.int .i64 p.1, .int .i64 p.2] 23)).heap.size = w.heap.size + 1 := by simp
  rw [hsz] at HS0
  clear hsz
  go_enter Try.func7, Try.ntmps7
  go_wp2_with (first | (refine wpList_set_insert rfl (.tmp 10) (.tmp 11) (.const (.bool true)) rfl intKeyed Try.underlying48 Try.underlying4 rfl HS0.out (by unfold maxLen; omega) rfl (x := root) rfl HRO.out _ (intKey root HRO.out) int_inj ?_; intro w1 hs1 hg1; have HS1 := Aside0.mk hs1; have HB1 := Aside0.mk (pw_below_grown HB0.out _ HB0.out.size hg1 (fun j hj => by injection hj with hj; omega)); have HP1 := Aside0.mk (blk_grown HP0.out hg1 (by simp)); have q0 := (blk_cell HP1.out 0); have q1 := (blk_cell HP1.out 1); clear hs1 hg1) | (go_at_call 12; refine (of_calls A c xs p w1 (Kd.C_below HR.out HB1.out) hm).mono ?_; rintro e w2 ⟨v, rfl, hR2, hB2⟩; obtain ⟨A2, c2, rfl, hc2, hC2⟩ := Kd.R_reads hR2; have HC2 := Aside0.mk hC2; have HB2 := Aside0.mk (below_step HB1.out hB2); have HS2 := Aside0.mk (HS1.out.kept (grown_of_below hB2 none) (by simp)); clear hR2 hB2 hC2 hc2))
  clear hmm HS0 HB0 HP0 HC0
  generalize hls : ofL xs p = ls at *
  have HLS := Lib.hid hls
  clear hls
  go_loopw [17] (fun i wr => ∃ (k : Nat) (S : List Int), k ≤ ls.length ∧ i = .int .i64 k ∧ Aside0 (OwnSet 3 4 (Value.int .i64) InI64 wr (w.heap.size + 1) (k + 1) (fun x => x ∈ S)) ∧ Aside0 (treeL [root] ls = treeL S (ls.drop k)) ∧ Aside0 (Kd.C kPr wr A2 ls.length ls) ∧ Aside0 (Below w.heap.size w wr)) (fun i _ => ls.length - (intOf i).toNat)
  case atStart => exact ⟨0, [root], Nat.zero_le _, rfl, ⟨by simpa using HS2.out⟩, ⟨by simp⟩, HC2, HB2⟩
  case round =>
    obtain ⟨k, S, hk, rfl, HS, HT, HC, HB⟩ := hrel
    have hle : ls.length ≤ 1000000 := by have := HLE.out; omega
    by_cases hlt : k < ls.length
    · obtain ⟨ad, x, rfl, hx, d0, d1⟩ := at_Pr HC.out k hlt
      have hV := HK.out x (List.mem_of_getElem? hx)
      have hdr : ls.drop k = x :: ls.drop (k + 1) := by
        have h2 : ls[k] = x := (List.getElem?_eq_some_iff.1 hx).2
        rw [List.drop_eq_getElem_cons hlt, h2]
      have HTT := HT.out
      rw [hdr, treeL_cons] at HTT
      clear hx hdr HT
      have HS1 := Aside0.mk (HS.out.alloc (.cells #[.int .i64 x.1, .int .i64 x.2] 46))
      have HD := Aside0.mk (below_alloc HB.out (.cells #[.int .i64 x.1, .int .i64 x.2] 46))
      have HCA := Aside0.mk (Kd.C_alloc HC.out (.cells #[.int .i64 x.1, .int .i64 x.2] 46))
      have HX := Aside0.mk (blk_new wr (.cells #[.int .i64 x.1, .int .i64 x.2] 46))
      have HLT := Aside0.mk HS.out.lt
      obtain ⟨r1, hlk1, hrs1⟩ := HS1.out.lookup (t := 48) intKeyed Try.underlying48 Try.underlying4 (by kernel_rfl) hV.1 (intKey _ hV.1)
      obtain ⟨r2, hlk2, hrs2⟩ := HS1.out.lookup (t := 48) intKeyed Try.underlying48 Try.underlying4 (by kernel_rfl) hV.2 (intKey _ hV.2)
      have HV := Aside0.mk hV
      have H1 := Aside0.mk hrs1
      have H2 := Aside0.mk hrs2
      clear hV hrs1 hrs2
      cases r1 with
      | false =>
        have hf : treeL [root] ls = false := by rw [HTT, if_neg (fun h => absurd (H1.out.2 h.1) (by simp))]
        have HF := Lib.hid hf
        clear hf HTT hlk2
        go_wp2
        go_ret
        exact ⟨by rw [HLS.out, HF.out]; rfl, HD.out⟩
      | true =>
        cases r2 with
        | true =>
          have hf : treeL [root] ls = false := by rw [HTT, if_neg (fun h => h.2 (H2.out.1 rfl))]
          have HF := Lib.hid hf
          clear hf HTT
          go_wp2
          go_ret
          exact ⟨by rw [HLS.out, HF.out]; rfl, HD.out⟩
        | false =>
          have hf : treeL [root] ls = treeL (x.2 :: S) (ls.drop (k + 1)) := by rw [HTT, if_pos ⟨H1.out.1 rfl, fun h => absurd (H2.out.2 h) (by simp)⟩]
          have HF := Lib.hid hf
          clear hf HTT
          go_wp2_with (first | (at_mapUpdate; refine wpList_set_put rfl _ _ _ rfl intKeyed Try.underlying48 Try.underlying4 rfl HS1.out (by unfold maxLen; have := HLE.out; omega) rfl (x := x.2) rfl HV.out.2 _ (intKey _ HV.out.2) int_inj ?_; intro w3 hs3 hg3; have HS3 := Aside0.mk hs3; have HB3 := Aside0.mk (pw_below_grown HD.out _ HD.out.size hg3 (fun j hj => by injection hj with hj; omega)); have HC3 := Aside0.mk (C_flat_move HCA.out (HS1.out.cells hg3)); clear hs3 hg3))
          go_roundw
          case rel => exact ⟨k + 1, x.2 :: S, by omega, by go_num, ⟨by simpa using HS3.out⟩, ⟨HF.out⟩, HC3, HB3⟩
          case measure => simp [intOf]; omega
    · obtain rfl : k = ls.length := by omega
      have hf : treeL [root] ls = true := by rw [HT.out, List.drop_length]; rfl
      have HF := Lib.hid hf
      clear hf HT
      go_wp2
      go_ret
      exact ⟨by rw [HLS.out, HF.out]; rfl, HB.out⟩

/-! ### The clients of a publication -/
def toL (xs : List Dl) (p : Int × Int) : List Int := (xs.filter fun x => decide ((x.2.1, x.2.2.1) = p)).map fun x => x.1
theorem toL_len (xs : List Dl) (p : Int × Int) : (toL xs p).length ≤ xs.length := by unfold toL; rw [List.length_map]; exact List.length_filter_le _ _
theorem toL_snoc_yes (xs : List Dl) (x : Dl) (p : Int × Int) (h : (x.2.1, x.2.2.1) = p) : toL (xs ++ [x]) p = toL xs p ++ [x.1] := by simp [toL, List.filter_append, h]
theorem toL_snoc_no (xs : List Dl) (x : Dl) (p : Int × Int) (h : ¬ (x.2.1, x.2.2.1) = p) : toL (xs ++ [x]) p = toL xs p := by simp [toL, List.filter_append, h]
theorem infoI64 : (Try.prog.info? 3).map (fun i => (i.zero, i.size, i.bytes)) = some (some (.int .i64 0), 1, 8) := by kernel_rfl

set_option maxHeartbeats 1600000 in
theorem to_calls (A : Option Addr) (c : Nat) (xs : List Dl) (p : Int × Int) (w : World) (hr : Kd.C kDl w A xs.length xs) (hm : xs.length ≤ 1000000) :
    Calls Try.prog 14 #[.slice A xs.length c, .agg #[.int .i64 p.1, .int .i64 p.2]] w fun e w' => ∃ v, e = .returned v ∧ Kd.R (Kd.int .i64) 3 w' w.heap.size (fun _ => True) v (toL xs p) ∧ Below w.heap.size w w' := by
  have HR := Aside0.mk hr
  clear hr
  go_enter Try.func14, Try.ntmps14
  go_wp2
  go_loopw [5, 10] (fun v i wr => ∃ k : Nat, k ≤ xs.length ∧ i = .int .i64 k ∧ Aside0 (Kd.R (Kd.int .i64) 3 wr w.heap.size (fun _ => True) v (toL (xs.take k) p)) ∧ Aside0 (wr.heap[w.heap.size]? = some (.cells #[.int .i64 p.1, .int .i64 p.2] 23 (0, 0))) ∧ Aside0 (Below w.heap.size w wr)) (fun _ i _ => xs.length - (intOf i).toNat)
  case atStart => exact ⟨0, Nat.zero_le _, rfl, ⟨Kd.R_nil _ _ _ _ _⟩, ⟨blk_new w _⟩, ⟨below_alloc (Below.refl _ _) _⟩⟩
  case round =>
    obtain ⟨k, hk, rfl, HO, HP, HB⟩ := hrel
    by_cases hlt : k < xs.length
    · obtain ⟨ad, x, rfl, hx, d0, d1, d2, d3⟩ := at_Dl HR.out k hlt
      replace d0 := cells_at HB.out d0
      replace d1 := cells_at HB.out d1
      replace d2 := cells_at HB.out d2
      replace d3 := cells_at HB.out d3
      have HTK : Hid (xs.take (k + 1) = xs.take k ++ [x]) := Lib.hid (by rw [List.take_add_one, hx]; rfl)
      have hll : (toL (xs.take k) p).length ≤ 1000000 := by have := toL_len (xs.take k) p; rw [List.length_take] at this; omega
      have HLL := Lib.hid hll
      clear hx hll
      have p0 := blk_cell HP.out 0
      have p1 := blk_cell HP.out 1
      have hpl := blk_lt HP.out
      by_cases hc : x.2.1 = p.1
      · by_cases hs : x.2.2.1 = p.2
        · have HY : Hid (toL (xs.take k ++ [x]) p = toL (xs.take k) p ++ [x.1]) := Lib.hid (toL_snoc_yes _ x p (Prod.ext hc hs))
          rw [hc] at d1
          rw [hs] at d2
          clear hc hs
          have HP1 := Aside0.mk (blk_alloc HP.out (.cells #[.int .i64 x.1, .int .i64 p.1, .int .i64 p.2, .slice x.2.2.2.1 x.2.2.2.2.1 x.2.2.2.2.2] 39))
          have HB1 := Aside0.mk (below_alloc HB.out (.cells #[.int .i64 x.1, .int .i64 p.1, .int .i64 p.2, .slice x.2.2.2.1 x.2.2.2.2.1 x.2.2.2.2.2] 39))
          go_wp2_with (first | ((with_reducible refine gate_builtin (b := .append) (xs := #[.tmp 18, .tmp 21]) rfl ?_); at_builtin; refine Kd.R_append (Kd.int .i64) (w0 := w) (w.heap.size) rfl (.tmp 18) (.tmp 21) 31 3 (.int .i64 0) 8 rfl Try.underlying31 infoI64 rfl (by decide) (by omega) (u5) (toL (xs.take k) p) (x.1) [.int .i64 x.1] (fun _ => True) (fun _ => False) rfl ?aX ?aP (fun _ hk => hk.elim) ?aF ?aO ?aB ?aS ?aL ?_; (case aX => first | rfl | (simp [Act.eval]; done)); (case aP => exact rfl); (case aB => exact (by repeat (with_reducible first | exact HB1.out | apply below_alloc | apply pw_below_drewN | apply below_drew1))); (case aF => exact (fun _ _ => trivial)); (case aO => exact (by (with_reducible repeat (first | apply Kd.R_alloc | apply Kd.R_drewN | apply Kd.R_drew)); exact HO.out)); (case aS => exact (below_size (by repeat (with_reducible first | exact HB1.out | apply below_alloc | apply pw_below_drewN | apply below_drew1)))); (case aL => have := HLL.out; omega); intro v1 w1 ho hb hg hat; have HO3 := Aside0.mk ho; have HB3 := Aside0.mk hb; have HP3 := Aside0.mk (blk_grown HP1.out hg (Kd.R_ne HO.out HP.out (by decide))); clear ho hb hg hat))
          go_roundw
          case rel => exact ⟨k + 1, by omega, by go_num, ⟨by rw [HTK.out, HY.out]; exact HO3.out⟩, HP3, HB3⟩
          case measure => simp [intOf]; omega
        · have HY : Hid (toL (xs.take k ++ [x]) p = toL (xs.take k) p) := Lib.hid (toL_snoc_no _ x p (fun h => hs (by rw [← h])))
          rw [hc] at d1
          have hsb : (x.2.2.1 == p.2) = false := by simpa using hs
          clear hc hs
          go_wp2
          go_roundw
          case rel => exact ⟨k + 1, by omega, by go_num, ⟨by rw [HTK.out, HY.out]; exact Kd.R_alloc HO.out _⟩, ⟨blk_alloc HP.out _⟩, ⟨below_alloc HB.out _⟩⟩
          case measure => simp [intOf]; omega
      · have HY : Hid (toL (xs.take k ++ [x]) p = toL (xs.take k) p) := Lib.hid (toL_snoc_no _ x p (fun h => hc (by rw [← h])))
        have hcb : (x.2.1 == p.1) = false := by simpa using hc
        clear hc
        go_wp2
        go_roundw
        case rel => exact ⟨k + 1, by omega, by go_num, ⟨by rw [HTK.out, HY.out]; exact Kd.R_alloc HO.out _⟩, ⟨blk_alloc HP.out _⟩, ⟨below_alloc HB.out _⟩⟩
        case measure => simp [intOf]; omega
    · obtain rfl : k = xs.length := by omega
      have HO1 : Aside0 (Kd.R (Kd.int .i64) 3 wr w.heap.size (fun _ => True) u5 (toL xs p)) := ⟨by have := HO.out; rwa [List.take_length] at this⟩
      go_wp2
      go_ret
      exact ⟨_, rfl, HO1.out, HB.out⟩
end Go.Proofs.Ytcbaclmijdoenaa.Lg

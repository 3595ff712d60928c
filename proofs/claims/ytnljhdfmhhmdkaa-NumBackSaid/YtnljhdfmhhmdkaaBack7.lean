/-
  Tools for NumBack: IDs written and read, and what is read of numbers, texts, a byte, an ID put one behind the other.
-/
import Derived.Test.YtnljhdfmhhmdkaaMany7
namespace Go.Proofs.Ytnljhdfmhhmdkaa.Rd
open Go.RowKit Go.Proofs.YtnljhdfmhhmdkaaW.PrintWords Go.Proofs.YtnljhdfmhhmdkaaW.PrintLast Go.Proofs.YtnljhdfmhhmdkaaW.PrintMore
set_option linter.unusedVariables false
set_option linter.unusedSimpArgs false

theorem cells_at {w0 w : World} (h : Below w0.heap.size w0 w) {a : Addr} {v : Value} (hc : w0.cell? a = some v) : w.cell? a = some v := (h.cell (World.block_lt_of_cell? w0 a hc)).trans hc
set_option maxHeartbeats 800000 in
theorem nid_calls (a b : Int) (w : World) : Calls Try.prog 22 #[.agg #[.int .i64 a, .int .i64 b]] w fun e w' => ∃ v, e = .returned v ∧ Kd.R (Kd.int .u8) 5 w' w.heap.size (fun _ => True) v (be8s [a, b]) ∧ Below w.heap.size w w' := by
  have HB := Aside0.mk (below_alloc (below_alloc (Below.refl w.heap.size w) (.cells #[.int .i64 a, .int .i64 b] 42)) (.cells #[.int .i64 a, .int .i64 b] 3))
  have hC := C_lit .i64 [a, b] (w.alloc (.cells #[.int .i64 a, .int .i64 b] 42)) 3 (by simp)
  have hs : (w.alloc (.cells #[.int .i64 a, .int .i64 b] 42)).heap.size = w.heap.size + 1 := by simp
  rw [hs] at hC
  have HN := Lib.hid (num_calls (some ⟨w.heap.size + 1, 0, none⟩) 2 [a, b] _ hC (by simp))
  clear hC hs
  go_enter Try.func22, Try.ntmps22
  go_wp2_with (first | (go_at_call 11; refine HN.out.mono ?_; rintro e w1 ⟨v, rfl, hR, hBn⟩; have HR := Aside0.mk hR; have HBn := Aside0.mk hBn; clear hR hBn))
  go_ret
  exact ⟨v, rfl, Kd.R_lower HR.out HB.out.size, below_step HB.out HBn.out⟩

/-- What an ID that stands next comes to. -/
def id1 (bs : List Int) (bad : Bool) : (Int × Int) × List Int × Bool :=
  (if (number1 (number1 bs bad).2.1 (number1 bs bad).2.2).2.2 = true then (0, 0) else ((number1 bs bad).1, (number1 (number1 bs bad).2.1 (number1 bs bad).2.2).1), (number1 (number1 bs bad).2.1 (number1 bs bad).2.2).2)
theorem rid_end {w0 w w2 : World} {g : Nat} {bs2 : List Int} {bad2 : Bool} (x y : Value) (o : Obj) (hw0 : w0.heap.size ≤ w.heap.size) (hgl : g < w.heap.size)
    (hK2 : KeepBut (w.alloc (.cells #[.int .i64 0, .int .i64 0] 42)) w2 g none) (hI : IsRd w0 w2 g bs2 bad2) (hB : Below w0.heap.size w0 w2) :
    IsRd w0 (((w2.setCell ⟨w.heap.size, 0, none⟩ x).setCell ⟨w.heap.size, 1, none⟩ y).alloc o) g bs2 bad2 ∧ Below w0.heap.size w0 (((w2.setCell ⟨w.heap.size, 0, none⟩ x).setCell ⟨w.heap.size, 1, none⟩ y).alloc o) ∧ KeepBut w (((w2.setCell ⟨w.heap.size, 0, none⟩ x).setCell ⟨w.heap.size, 1, none⟩ y).alloc o) g none := by
  have k1 : KeepBut w2 (((w2.setCell ⟨w.heap.size, 0, none⟩ x).setCell ⟨w.heap.size, 1, none⟩ y).alloc o) w.heap.size none := (((KeepBut.refl w2 w.heap.size none).set_ 0 x).set_ 1 y).trans (KeepBut.of_below (below_alloc (Below.refl _ _) o) _ none) (.inl rfl)
  refine ⟨hI.keep k1 (by omega), below_alloc (below_set (below_set hB hw0) hw0) o, ?_⟩
  have hs : (w.alloc (.cells #[.int .i64 0, .int .i64 0] 42)).heap.size = w.heap.size + 1 := by simp
  have h2 := hK2.1
  refine ⟨by have := k1.1; omega, fun i hi hg hr => ?_⟩
  exact (k1.2 i (by omega) (by omega) (by simp)).trans ((hK2.2 i (by omega) hg (by simp)).trans ((below_alloc (Below.refl w.heap.size w) _).block i hi))
set_option maxHeartbeats 1600000 in
theorem rid_calls (g : Nat) (bs : List Int) (bad : Bool) (w0 w : World) (hI : IsRd w0 w g bs bad) (hB : Below w0.heap.size w0 w) :
    Calls Try.prog 23 #[.pointer (some ⟨g, 0, none⟩)] w fun e w' => e = .returned (.agg #[.int .i64 (id1 bs bad).1.1, .int .i64 (id1 bs bad).1.2]) ∧
      IsRd w0 w' g (id1 bs bad).2.1 (id1 bs bad).2.2 ∧ Below w0.heap.size w0 w' ∧ KeepBut w w' g none := by
  have hgl := hI.lt
  have hne : w.heap.size ≠ g := by omega
  have hw0 : w0.heap.size ≤ w.heap.size := hB.size
  have H1 := Lib.hid (number_calls g bs bad w0 _ (hI.alloc (.cells #[.int .i64 0, .int .i64 0] 42)) (below_alloc hB (.cells #[.int .i64 0, .int .i64 0] 42)))
  have HBb := Aside0.mk (blk_new w (.cells #[.int .i64 0, .int .i64 0] 42))
  clear hI hB
  unfold id1
  generalize hz : number1 bs bad = z at *
  obtain ⟨n1, bs1, bad1⟩ := z
  clear hz
  simp only at H1 ⊢
  have H2 := Lib.hid (fun W h1 h2 => number_calls g bs1 bad1 w0 W h1 h2)
  generalize hz : number1 bs1 bad1 = z at *
  obtain ⟨n2, bs2, bad2⟩ := z
  clear hz
  simp only at H2 ⊢
  cases bad2
  · simp only [Bool.false_eq_true, if_false]
    go_enter Try.func23, Try.ntmps23
    go_wp2_with fail
    refine H1.out.mono ?_
    rintro e w1 ⟨rfl, hI, hB, hK⟩
    have H2a := Lib.hid (H2.out w1 hI hB)
    have HB1 := Aside0.mk (hK.blk HBb.out hne (by simp))
    have HK := Aside0.mk hK
    clear hI hB hK H1 H2
    go_wp2_with fail
    refine H2a.out.mono ?_
    rintro e w2 ⟨rfl, hI, hB, hK⟩
    have HB2 := Aside0.mk (hK.blk HB1.out hne (by simp))
    have HK2 := Aside0.mk (KeepBut_trans HK.out hK)
    have HI := Aside0.mk hI
    have HBw := Aside0.mk hB
    clear hI hB hK H2a HK HB1
    have hc1 : w2.cell? ⟨g, 1, none⟩ = some (.bool false) := by obtain ⟨_, A, c, hb, _⟩ := HI.out; exact rd_cell1 hb
    have p0 := blk_cell HB2.out 0
    have p1 := blk_cell HB2.out 1
    have f0 := blk_frozen HB2.out 0
    have f1 := blk_frozen HB2.out 1
    have hl2 := blk_lt HB2.out
    have hgl2 := HI.out.lt
    have HF := blk_alloc (blk_put (blk_put HB2.out 0 (.int .i64 n1) rfl) 1 (.int .i64 n2) rfl) (.cells #[.int .i64 n1, .int .i64 n2] 42)
    have q0 := (blk_cell HF 0).trans (rfl : _ = some (Value.int .i64 n1))
    have q1 := (blk_cell HF 1).trans (rfl : _ = some (Value.int .i64 n2))
    have HQ := Aside0.mk (And.intro q0 q1)
    clear q0 q1 HF
    go_wp2
    refine bodyPost_ret (v := .agg #[.int .i64 n1, .int .i64 n2]) (by simp [results, Try.results23, go_sem, HQ.out.1, HQ.out.2]) rfl ⟨rfl, ?_⟩
    exact rid_end _ _ _ hw0 hgl HK2.out HI.out HBw.out
  · simp only [if_true]
    go_enter Try.func23, Try.ntmps23
    go_wp2_with fail
    refine H1.out.mono ?_
    rintro e w1 ⟨rfl, hI, hB, hK⟩
    have H2a := Lib.hid (H2.out w1 hI hB)
    have HB1 := Aside0.mk (hK.blk HBb.out hne (by simp))
    have HK := Aside0.mk hK
    clear hI hB hK H1 H2
    go_wp2_with fail
    refine H2a.out.mono ?_
    rintro e w2 ⟨rfl, hI, hB, hK⟩
    have HB2 := Aside0.mk (hK.blk HB1.out hne (by simp))
    have HK2 := Aside0.mk (KeepBut_trans HK.out hK)
    have HI := Aside0.mk hI
    have HBw := Aside0.mk hB
    clear hI hB hK H2a HK HB1
    have hc1 : w2.cell? ⟨g, 1, none⟩ = some (.bool true) := by obtain ⟨_, A, c, hb, _⟩ := HI.out; exact rd_cell1 hb
    have p0 := blk_cell HB2.out 0
    have p1 := blk_cell HB2.out 1
    have f0 := blk_frozen HB2.out 0
    have f1 := blk_frozen HB2.out 1
    have hl2 := blk_lt HB2.out
    have hgl2 := HI.out.lt
    have HF := blk_alloc (blk_put (blk_put HB2.out 0 (.int .i64 0) rfl) 1 (.int .i64 0) rfl) (.cells #[.int .i64 n1, .int .i64 n2] 42)
    have q0 := (blk_cell HF 0).trans (rfl : _ = some (Value.int .i64 0))
    have q1 := (blk_cell HF 1).trans (rfl : _ = some (Value.int .i64 0))
    have HQ := Aside0.mk (And.intro q0 q1)
    clear q0 q1 HF
    go_wp2
    refine bodyPost_ret (v := .agg #[.int .i64 0, .int .i64 0]) (by simp [results, Try.results23, go_sem, HQ.out.1, HQ.out.2]) rfl ⟨rfl, ?_⟩
    exact rid_end _ _ _ hw0 hgl HK2.out HI.out HBw.out
/-! ### Rows appended one behind the other -/
def Far (v s : Value) : Prop := ∀ k, v.ownBlock = some k → some k ≠ s.ownBlock
theorem far_next {v1 v s : Value} {W : World} (hat : v1.ownBlock = v.ownBlock ∨ ∃ b, v1.ownBlock = some b ∧ W.heap.size ≤ b) (hn : Far v s) (hl : ∀ k, s.ownBlock = some k → k < W.heap.size) : Far v1 s := by
  intro k hk he
  rcases hat with h | ⟨b, h, hb⟩
  · exact hn k (by rw [← h, hk]) he
  · have h2 : b = k := by rw [h] at hk; exact Option.some.inj hk
    have h3 := hl k he.symm
    omega
theorem far_new {v s : Value} {N : Nat} (hv : ∀ k, v.ownBlock = some k → k < N) (hs : ∀ k, s.ownBlock = some k → N ≤ k) : Far v s := by
  intro k hk he
  have h1 := hv k hk
  have h2 := hs k he.symm
  omega
theorem far_nil (s : Value) : Far (.slice none 0 0) s := fun k hk => by cases hk
theorem own_oneR (w : World) (x : Int) : Kd.R (Kd.int .u8) 5 (w.alloc (.cells #[.int .u8 x] 5)) w.heap.size (fun _ => True) (.slice (some ⟨w.heap.size, 0, none⟩) 1 1) [x] :=
  Kd.R_of_own (enc := Value.int .u8) (h1 := fun _ => rfl) (by simpa [encs] using World.ownsRow_lit (base := w.heap.size) (e := 5) (size := 1) w #[.int .u8 x] 1 (Nat.le_refl _) (by simp [maxLen]) rfl) (fun _ _ => trivial)
theorem cat_step_at {P : Program} {ops : Array Oper} {o : Oper} {a : Act} {Q : Exit → Act → World → Prop} {Kc : Act → World → Prop} {α : Type} (d : Kd α) (hf : ∀ W base ok x cs, d.K W x cs → d.M W base ok x cs) (w0 W : World) (base : Nat) (hw : Region.wanted o (yielded ops a.tmps) = true) (s x : Operand) (t e : TypeId) (z : Value) (bytes : Nat)
    (ho : o.op = .call { callee := .builtin .append, args := #[s, x], argTypes := #[t, t] })
    (ht : P.underlying t = some (.slice e)) (hinfo : (P.info? e).map (fun i => (i.zero, i.size, i.bytes)) = some (some z, d.sz, bytes)) (hz : z.cells.size = d.sz) (hs0 : 0 < d.sz) (hb0 : 0 < bytes)
    (v : Value) (xs ys : List α) (A : Option Addr) (m c : Nat) (hs : a.eval s = v) (hx : a.eval x = .slice A m c)
    (HO : d.R e W base (fun _ => True) v xs) (HR : d.C W A m ys) (HB : Below base w0 W) (hbase : base ≤ W.heap.size) (hl : (xs.length + m) * bytes ≤ 140737488355328)
    (h : ∀ v1 w1, d.R e w1 base (fun _ => True) v1 (xs ++ ys) → Below base w0 w1 → W.grownBy w1 v.ownBlock → (v1.ownBlock = v.ownBlock ∨ ∃ b, v1.ownBlock = some b ∧ W.heap.size ≤ b) → Kc (a.put o.dst v1) w1) :
    if Region.wanted o (yielded ops a.tmps) = true then Oper.wp P o a W Kc Q else Kc (a.put o.dst undef) W :=
  Kd.R_append_rows_step d base hw s x t e z bytes ho ht hinfo hz hs0 hb0 v xs ys A m c (fun _ => True) (fun _ => False) hs hx HO HR (fun x cs h => hf _ _ _ _ _ h) (fun _ h => h.elim) (fun _ _ => trivial) HB hbase hl h
theorem intKM {k : IntKind} : ∀ W base ok x cs, (Kd.int k).K W x cs → (Kd.int k).M W base ok x cs := fun _ _ _ _ _ h => h

/-! ### What is read of a cut -/
theorem num_bad (b : List Int) : number1 b true = (0, b, true) := by simp [number1]
theorem byt_bad (b : List Int) : byte1 b true = (0, b, true) := by simp [byte1]
theorem txt_bad (b : List Int) : text1 b true = (⟨#[]⟩, b, true) := by unfold text1; rw [byt_bad]; simp [takes, strOfNums]
theorem id_bad (b : List Int) : id1 b true = ((0, 0), b, true) := by unfold id1; rw [num_bad]; simp only [num_bad, if_true]
theorem num_cut (n : Int) (h : InI64 n) (R : List Int) (k : Nat) : (k < 8 → ∃ b, number1 ((be8 n ++ R).take k) false = (0, b, true)) ∧ (8 ≤ k → number1 ((be8 n ++ R).take k) false = (n, R.take (k - 8), false)) := by
  constructor
  · intro hk
    refine ⟨(be8 n ++ R).take k, ?_⟩
    unfold number1
    rw [if_pos (.inr (by rw [List.length_take]; omega))]
  · intro hk
    rw [List.take_append, List.take_of_length_le (by rw [be8_len]; exact hk), be8_len, number1_be8 n h]
theorem id_cut (x y : Int) (hx : InI64 x) (hy : InI64 y) (R : List Int) (k : Nat) : (k < 16 → ∃ b, id1 ((be8 x ++ (be8 y ++ R)).take k) false = ((0, 0), b, true)) ∧ (16 ≤ k → id1 ((be8 x ++ (be8 y ++ R)).take k) false = ((x, y), R.take (k - 16), false)) := by
  constructor
  · intro hk
    by_cases h8 : k < 8
    · obtain ⟨b, hb⟩ := (num_cut x hx (be8 y ++ R) k).1 h8
      unfold id1
      rw [hb]
      simp only [num_bad, if_true]
      exact ⟨b, rfl⟩
    · obtain ⟨b, hb⟩ := (num_cut y hy R (k - 8)).1 (by omega)
      unfold id1
      rw [(num_cut x hx (be8 y ++ R) k).2 (by omega)]
      simp only [hb, if_true]
      exact ⟨b, rfl⟩
  · intro hk
    unfold id1
    rw [(num_cut x hx (be8 y ++ R) k).2 (by omega)]
    simp only [(num_cut y hy R (k - 8)).2 (by omega), Bool.false_eq_true, if_false]
    rw [show k - 8 - 8 = k - 16 by omega]
theorem byt_cut (c : Int) (R : List Int) (k : Nat) : (k = 0 → ∃ b, byte1 ((c :: R).take k) false = (0, b, true)) ∧ (1 ≤ k → byte1 ((c :: R).take k) false = (c, R.take (k - 1), false)) := by
  constructor
  · rintro rfl
    exact ⟨[], by simp [byte1]⟩
  · intro hk
    obtain ⟨j, rfl⟩ : ∃ j, k = j + 1 := ⟨k - 1, by omega⟩
    simp [byte1]
theorem txt_cut (s : ByteArray) (h : s.size ≤ 255) (R : List Int) (k : Nat) : (k < s.size + 1 → ∃ b, text1 ((text8 s ++ R).take k) false = (⟨#[]⟩, b, true)) ∧ (s.size + 1 ≤ k → text1 ((text8 s ++ R).take k) false = (s, R.take (k - (s.size + 1)), false)) := by
  constructor
  · intro hk
    unfold text8
    rw [if_neg (by omega)]
    unfold text1
    cases k with
    | zero => exact ⟨_, by simp [byte1, takes, strOfNums]; rfl⟩
    | succ j =>
      have hb : byte1 ((((s.size : Int) :: bytesOf s) ++ R).take (j + 1)) false = ((s.size : Int), (bytesOf s ++ R).take j, false) := by simp [byte1]
      rw [hb]
      have ht : takes ((bytesOf s ++ R).take j) false (s.size : Int) = ([], (bytesOf s ++ R).take j, true) := by
        unfold takes
        rw [if_pos (.inr (by rw [List.length_take]; omega))]
      simp only [ht]
      exact ⟨_, by simp [strOfNums]; rfl⟩
  · intro hk
    rw [List.take_append, List.take_of_length_le (by rw [text8_len s h]; exact hk), text8_len s h, text1_text8 s h]
/-- All that is read of the first k bytes. -/
theorem back_cut {n m c x y : Int} {s t : ByteArray} (hn : InI64 n) (hm : InI64 m) (hx : InI64 x) (hy : InI64 y) (hs : s.size ≤ 255) (ht : t.size ≤ 255) (B : List Int) (hB : B = be8 n ++ (be8 m ++ (text8 s ++ (c :: (be8 x ++ (be8 y ++ text8 t)))))) (k : Nat) (hk : k < B.length) :
    ∃ (p q d i j : Int) (u : ByteArray) (b1 b2 b3 b4 b5 b6 : List Int) (x1 x2 x3 x4 x5 : Bool), number1 (B.take k) false = (p, b1, x1) ∧ number1 b1 x1 = (q, b2, x2) ∧ text1 b2 x2 = (u, b3, x3) ∧ byte1 b3 x3 = (d, b4, x4) ∧ id1 b4 x4 = ((i, j), b5, x5) ∧ text1 b5 x5 = (⟨#[]⟩, b6, true) ∧
      (k < 8 → p = 0) ∧ (8 ≤ k → p = n) ∧ (k < 16 → q = 0 ∧ u = ⟨#[]⟩ ∧ d = 0 ∧ i = 0 ∧ j = 0) := by
  have hl : B.length = 8 + (8 + (s.size + 1 + (1 + (8 + (8 + (t.size + 1)))))) := by
    rw [hB]
    simp only [List.length_append, List.length_cons, be8_len, text8_len s hs, text8_len t ht]
    omega
  subst hB
  by_cases h1 : k < 8
  · obtain ⟨b, hb⟩ := (num_cut n hn _ k).1 h1
    exact ⟨0, 0, 0, 0, 0, ⟨#[]⟩, b, b, b, b, b, b, true, true, true, true, true, hb, num_bad b, txt_bad b, byt_bad b, id_bad b, txt_bad b, fun _ => rfl, fun h => by omega, fun _ => ⟨rfl, rfl, rfl, rfl, rfl⟩⟩
  have e1 := (num_cut n hn (be8 m ++ (text8 s ++ (c :: (be8 x ++ (be8 y ++ text8 t))))) k).2 (by omega)
  by_cases h2 : k - 8 < 8
  · obtain ⟨b, hb⟩ := (num_cut m hm (text8 s ++ (c :: (be8 x ++ (be8 y ++ text8 t)))) (k - 8)).1 h2
    exact ⟨n, 0, 0, 0, 0, ⟨#[]⟩, _, b, b, b, b, b, false, true, true, true, true, e1, hb, txt_bad b, byt_bad b, id_bad b, txt_bad b, fun h => by omega, fun _ => rfl, fun _ => ⟨rfl, rfl, rfl, rfl, rfl⟩⟩
  have e2 := (num_cut m hm (text8 s ++ (c :: (be8 x ++ (be8 y ++ text8 t)))) (k - 8)).2 (by omega)
  have hno : k < 16 → m = 0 ∧ s = ⟨#[]⟩ ∧ c = 0 ∧ x = 0 ∧ y = 0 := fun h => by omega
  by_cases h3 : k - 8 - 8 < s.size + 1
  · obtain ⟨b, hb⟩ := (txt_cut s hs (c :: (be8 x ++ (be8 y ++ text8 t))) (k - 8 - 8)).1 h3
    exact ⟨n, m, 0, 0, 0, ⟨#[]⟩, _, _, b, b, b, b, false, false, true, true, true, e1, e2, hb, byt_bad b, id_bad b, txt_bad b, fun h => by omega, fun _ => rfl, fun h => by omega⟩
  have e3 := (txt_cut s hs (c :: (be8 x ++ (be8 y ++ text8 t))) (k - 8 - 8)).2 (by omega)
  by_cases h4 : k - 8 - 8 - (s.size + 1) = 0
  · obtain ⟨b, hb⟩ := (byt_cut c (be8 x ++ (be8 y ++ text8 t)) (k - 8 - 8 - (s.size + 1))).1 h4
    exact ⟨n, m, 0, 0, 0, s, _, _, _, b, b, b, false, false, false, true, true, e1, e2, e3, hb, id_bad b, txt_bad b, fun h => by omega, fun _ => rfl, fun h => by omega⟩
  have e4 := (byt_cut c (be8 x ++ (be8 y ++ text8 t)) (k - 8 - 8 - (s.size + 1))).2 (by omega)
  by_cases h5 : k - 8 - 8 - (s.size + 1) - 1 < 16
  · obtain ⟨b, hb⟩ := (id_cut x y hx hy (text8 t) (k - 8 - 8 - (s.size + 1) - 1)).1 h5
    exact ⟨n, m, c, 0, 0, s, _, _, _, _, b, b, false, false, false, false, true, e1, e2, e3, e4, hb, txt_bad b, fun h => by omega, fun _ => rfl, fun h => by omega⟩
  have e5 := (id_cut x y hx hy (text8 t) (k - 8 - 8 - (s.size + 1) - 1)).2 (by omega)
  obtain ⟨b, hb⟩ := (txt_cut t ht [] (k - 8 - 8 - (s.size + 1) - 1 - 16)).1 (by omega)
  rw [List.append_nil] at hb
  exact ⟨n, m, c, x, y, s, _, _, _, _, _, b, false, false, false, false, false, e1, e2, e3, e4, e5, hb, fun h => by omega, fun _ => rfl, fun h => by omega⟩
theorem id1_be8 (x y : Int) (hx : InI64 x) (hy : InI64 y) (R : List Int) : id1 (be8 x ++ (be8 y ++ R)) false = ((x, y), R, false) := by
  unfold id1
  rw [number1_be8 x hx]
  simp only [number1_be8 y hy, Bool.false_eq_true, if_false]
theorem back_byt {n m c x y : Int} {s t : ByteArray} (hc : 0 ≤ c ∧ c < 256) : Byt (be8 n ++ (be8 m ++ (text8 s ++ (c :: (be8 x ++ (be8 y ++ text8 t)))))) := by
  intro b hb
  simp only [List.mem_append, List.mem_cons] at hb
  rcases hb with h | h | h | rfl | h | h | h
  · exact be8_byt _ b h
  · exact be8_byt _ b h
  · exact text8_byt _ b h
  · exact hc
  · exact be8_byt _ b h
  · exact be8_byt _ b h
  · exact text8_byt _ b h
/-! ### A store into an elder block -/
theorem below_both {B : Nat} {w w' : World} (h : Below B w w') {p : Addr} (hp : p.block < B) (v : Value) : Below B (w.setCell p v) (w'.setCell p v) :=
  ⟨h.os, h.tape, h.output, by simpa [World.setCell] using h.size, fun k hk => by
    simp only [World.setCell, Array.getElem?_modify]
    rw [h.block k hk]⟩
theorem C_set {w : World} {A : Option Addr} {n : Nat} {l : List Int} (h : Kd.C (Kd.int .u8) w A n l) {p : Addr} {z : Int} (hp : w.cell? p = some (.int .i64 z)) (v : Value) : Kd.C (Kd.int .u8) (w.setCell p v) A n l := by
  refine ⟨h.1, h.2.1, fun h0 => ?_⟩
  obtain ⟨ad, e, hc⟩ := h.2.2 h0
  refine ⟨ad, e, fun i x hx => ?_⟩
  obtain ⟨cs, hs, hr, hcell⟩ := hc i x hx
  refine ⟨cs, hs, hr, fun j u hu => ?_⟩
  have h1 := hcell j u hu
  have hr' : cs = [Value.int .u8 x] := hr
  subst hr'
  have hu' : u = .int .u8 x := by
    cases j with
    | zero => exact (Option.some.inj hu).symm
    | succ j => simp at hu
  subst hu'
  rw [World.cell?_setCell_other _ _ _ _ (fun e => by rw [← e, hp] at h1; cases h1)]
  exact h1
theorem IsRd.set_ {w0 W : World} {g : Nat} {bs : List Int} {bad : Bool} (h : IsRd w0 W g bs bad) {p : Addr} {z : Int} (hp : w0.cell? p = some (.int .i64 z)) (hpl : p.block < w0.heap.size) (v : Value) : IsRd (w0.setCell p v) (W.setCell p v) g bs bad := by
  obtain ⟨hy, A, c, hb, hg, hc, hr⟩ := h
  exact ⟨hy, A, c, by rw [Below.heap_setCell _ _ _ _ (by omega)]; exact hb, by simpa [World.setCell] using hg, hc, C_set hr hp v⟩
/-- Two cells of an elder block written: the reader goes on. -/
theorem rd_store {w0 W : World} {g g2 : Nat} {bs : List Int} {bad : Bool} {a b : Int} {t : TypeId} (h : IsRd w0 W g bs bad) (hB : Below w0.heap.size w0 W) (h2 : w0.heap[g2]? = some (.cells #[.int .i64 a, .int .i64 b] t (0, 0))) (x y : Int) :
    IsRd ((w0.setCell ⟨g2, 0, none⟩ (.int .i64 x)).setCell ⟨g2, 1, none⟩ (.int .i64 y)) ((W.setCell ⟨g2, 0, none⟩ (.int .i64 x)).setCell ⟨g2, 1, none⟩ (.int .i64 y)) g bs bad ∧
    Below ((w0.setCell ⟨g2, 0, none⟩ (.int .i64 x)).setCell ⟨g2, 1, none⟩ (.int .i64 y)).heap.size ((w0.setCell ⟨g2, 0, none⟩ (.int .i64 x)).setCell ⟨g2, 1, none⟩ (.int .i64 y)) ((W.setCell ⟨g2, 0, none⟩ (.int .i64 x)).setCell ⟨g2, 1, none⟩ (.int .i64 y)) ∧
    ((W.setCell ⟨g2, 0, none⟩ (.int .i64 x)).setCell ⟨g2, 1, none⟩ (.int .i64 y)).heap[g2]? = some (.cells #[.int .i64 x, .int .i64 y] t (0, 0)) := by
  have hl := blk_lt h2
  have c0 : w0.cell? ⟨g2, 0, none⟩ = some (.int .i64 a) := (blk_cell h2 0).trans rfl
  have h2' := blk_put h2 0 (.int .i64 x) rfl
  have c1 : (w0.setCell ⟨g2, 0, none⟩ (.int .i64 x)).cell? ⟨g2, 1, none⟩ = some (.int .i64 b) := (blk_cell h2' 1).trans rfl
  have hs1 : (w0.setCell ⟨g2, 0, none⟩ (.int .i64 x)).heap.size = w0.heap.size := by simp [World.setCell]
  have hs2 : ((w0.setCell ⟨g2, 0, none⟩ (.int .i64 x)).setCell ⟨g2, 1, none⟩ (.int .i64 y)).heap.size = w0.heap.size := by simp [World.setCell]
  refine ⟨(h.set_ c0 hl _).set_ c1 (by rw [hs1]; exact hl) _, by rw [hs2]; exact below_both (below_both hB hl _) hl _, ?_⟩
  exact blk_put (blk_put (blk_below h2 hB) 0 _ rfl) 1 _ rfl

/-! ### The reader's calls at bytes that are known -/
section
variable {w0 W : World} {g : Nat} {R : List Int}
theorem rn_ok {n : Int} (hn : InI64 n) (hI : IsRd w0 W g (be8 n ++ R) false) (hB : Below w0.heap.size w0 W) : Calls Try.prog 17 #[.pointer (some ⟨g, 0, none⟩)] W fun e w' => e = .returned (.int .i64 n) ∧ IsRd w0 w' g R false ∧ Below w0.heap.size w0 w' ∧ KeepBut W w' g none := by
  have := number_calls g _ false w0 W hI hB
  rwa [number1_be8 n hn] at this
theorem rt_ok {s : ByteArray} (hs : s.size ≤ 255) (hI : IsRd w0 W g (text8 s ++ R) false) (hB : Below w0.heap.size w0 W) : Calls Try.prog 9 #[.pointer (some ⟨g, 0, none⟩)] W fun e w' => e = .returned (.string s) ∧ IsRd w0 w' g R false ∧ Below w0.heap.size w0 w' ∧ KeepBut W w' g none := by
  have := text_calls g _ false w0 W hI hB
  rwa [text1_text8 s hs] at this
theorem rb_ok {c : Int} (hI : IsRd w0 W g (c :: R) false) (hB : Below w0.heap.size w0 W) : Calls Try.prog 20 #[.pointer (some ⟨g, 0, none⟩)] W fun e w' => e = .returned (.int .u8 c) ∧ IsRd w0 w' g R false ∧ Below w0.heap.size w0 w' ∧ KeepBut W w' g none := by
  have := byte_calls g _ false w0 W hI hB
  simpa [byte1] using this
theorem ri_ok {x y : Int} (hx : InI64 x) (hy : InI64 y) (hI : IsRd w0 W g (be8 x ++ (be8 y ++ R)) false) (hB : Below w0.heap.size w0 W) : Calls Try.prog 23 #[.pointer (some ⟨g, 0, none⟩)] W fun e w' => e = .returned (.agg #[.int .i64 x, .int .i64 y]) ∧ IsRd w0 w' g R false ∧ Below w0.heap.size w0 w' ∧ KeepBut W w' g none := by
  have := rid_calls g _ false w0 W hI hB
  rwa [id1_be8 x y hx hy] at this
end
end Go.Proofs.Ytnljhdfmhhmdkaa.Rd

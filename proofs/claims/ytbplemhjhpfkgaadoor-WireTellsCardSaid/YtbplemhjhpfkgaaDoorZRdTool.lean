/-
 A reader's state, its methods; rows beside a reader.
-/
import Derived.Test.YtbplemhjhpfkgaaDoorZWirePure
import Derived.Test.YtbplemhjhpfkgaaDoorZRd
namespace Go.Proofs.YtbplemhjhpfkgaaDoor.Wr
open Go.RowKit YtbplemhjhpfkgaaDoorW.PrintWords YtbplemhjhpfkgaaDoorW.PrintLast YtbplemhjhpfkgaaDoorW.PrintMore Rd
open Go.Proofs.YtbplemhjhpfkgaaDoor.Cd (Co At kCo kAt at_Co at_At)
set_option linter.unusedVariables false
set_option linter.unusedSimpArgs false
abbrev Rs := List Int × Bool
def rdT (s : Rs) : ByteArray × Rs := text1 s.1 s.2
def rdB (s : Rs) : Int × Rs := byte1 s.1 s.2
def rdN (s : Rs) : Int × Rs := number1 s.1 s.2
abbrev IsRs (w0 W : World) (g : Nat) (s : Rs) : Prop := IsRd w0 W g s.1 s.2
theorem rdT_calls {s t : Rs} {x : ByteArray} (h : rdT s = (x, t)) (g : Nat) (w0 w : World) (hI : IsRs w0 w g s) (hB : Below w0.heap.size w0 w) :
  Calls Tryd.prog 93 #[.pointer (some ⟨g, 0, none⟩)] w fun e w' => e = .returned (.string x) ∧ IsRs w0 w' g t ∧ Below w0.heap.size w0 w' ∧ KeepBut w w' g none := by
 have hc := text_calls g s.1 s.2 w0 w hI hB; rw [show text1 s.1 s.2 = (x, t) from h] at hc; exact hc
theorem rdN_calls {s t : Rs} {x : Int} (h : rdN s = (x, t)) (g : Nat) (w0 w : World) (hI : IsRs w0 w g s) (hB : Below w0.heap.size w0 w) :
  Calls Tryd.prog 91 #[.pointer (some ⟨g, 0, none⟩)] w fun e w' => e = .returned (.int .i64 x) ∧ IsRs w0 w' g t ∧ Below w0.heap.size w0 w' ∧ KeepBut w w' g none := by
 have hc := number_calls g s.1 s.2 w0 w hI hB; rw [show number1 s.1 s.2 = (x, t) from h] at hc; exact hc
theorem rdB_calls {s t : Rs} {x : Int} (h : rdB s = (x, t)) (g : Nat) (w0 w : World) (hI : IsRs w0 w g s) (hB : Below w0.heap.size w0 w) :
  Calls Tryd.prog 90 #[.pointer (some ⟨g, 0, none⟩)] w fun e w' => e = .returned (.int .u8 x) ∧ IsRs w0 w' g t ∧ Below w0.heap.size w0 w' ∧ KeepBut w w' g none := by
 have hc := byte_calls g s.1 s.2 w0 w hI hB; rw [show byte1 s.1 s.2 = (x, t) from h] at hc; exact hc
def rdMany {α : Type} (f : Rs → α × Rs) : Nat → Rs → List α → List α × Rs
 | 0, s, l => (l, s)
 | k + 1, s, l => if s.2 = true then (l, s) else rdMany f k (f s).2 (l ++ [(f s).1])
theorem rdMany_bad {α : Type} (f : Rs → α × Rs) (k : Nat) (s : Rs) (l : List α) (h : s.2 = true) : rdMany f k s l = (l, s) := by cases k <;> simp [rdMany, h]
theorem rdMany_step {α : Type} (f : Rs → α × Rs) (k : Nat) (s : Rs) (l : List α) (h : s.2 = false) : rdMany f (k + 1) s l = rdMany f k (f s).2 (l ++ [(f s).1]) := by simp [rdMany, h]
theorem byte1_byt {bs : List Int} (h : Byt bs) (bad : Bool) : Byt (byte1 bs bad).2.1 := by
 unfold byte1; cases bad
 ·cases bs with
  | nil => exact h
  | cons b r => exact fun x hx => h x (List.mem_cons_of_mem b hx)
 ·exact h
theorem takes_byt2 {bs : List Int} (h : Byt bs) (bad : Bool) (n : Int) : Byt (takes bs bad n).2.1 := by
 unfold takes
 split
 ·exact h
 ·exact fun x hx => h x (List.mem_of_mem_drop hx)
theorem rdT_byt {s t : Rs} {x : ByteArray} (h : rdT s = (x, t)) (hb : Byt s.1) : Byt t.1 := by
 have h1 : (text1 s.1 s.2).2.1 = t.1 := by rw [show text1 s.1 s.2 = (x, t) from h]
 rw [← h1]; exact takes_byt2 (byte1_byt hb _) _ _
theorem rdB_range {s t : Rs} {x : Int} (h : rdB s = (x, t)) (hb : Byt s.1) : 0 ≤ x ∧ x < 256 := by
 have := byte1_bd s.1 s.2 hb; rw [show byte1 s.1 s.2 = (x, t) from h] at this; exact this
theorem rdT_size {s t : Rs} {x : ByteArray} (h : rdT s = (x, t)) (hb : Byt s.1) : x.size ≤ 255 := by
 have h1 : (text1 s.1 s.2).1 = x := by rw [show text1 s.1 s.2 = (x, t) from h]
 have h2 := byte1_bd s.1 s.2 hb; obtain ⟨n, hn⟩ : ∃ n : Nat, (byte1 s.1 s.2).1 = n := ⟨(byte1 s.1 s.2).1.toNat, by omega⟩; have h3 := takes_len (byte1 s.1 s.2).2.1 (byte1 s.1 s.2).2.2 n; rw [← h1]; unfold text1; rw [hn]; simp only [strOfNums, ByteArray.size, List.size_toArray, List.length_map]; omega
theorem infoCo : (Tryd.prog.info? 44).map (fun i => (i.zero, i.size, i.bytes)) = some (some (.agg #[(.string ⟨#[]⟩), (.int .i64 0), (.int .i64 0), (.int .i64 0), (.string ⟨#[]⟩)]), 5, 56) := by kernel_rfl
theorem infoAt : (Tryd.prog.info? 59).map (fun i => (i.zero, i.size, i.bytes)) = some (some (.agg #[(.string ⟨#[]⟩), (.bool false), (.int .i64 0), (.string ⟨#[]⟩)]), 4, 48) := by kernel_rfl
theorem rd_blk {w0 W : World} {g : Nat} {s : Rs} (h : IsRs w0 W g s) : ∃ cells, W.heap[g]? = some (.cells cells 153 (0, 0)) := by
 obtain ⟨_, A, c, hb, _⟩ := h; exact ⟨_, hb⟩
theorem R_block {α : Type} {d : Kd α} {T t : TypeId} {w w1 : World} {base g : Nat} {v : Value} {xs : List α} {cells : Array Value} (h : Kd.R d T w base (fun _ => True) v xs) (hE : d.E = []) (hb : w.heap[g]? = some (.cells cells t (0, 0))) (ht : T ≠ t) (hk : KeepBut w w1 g none) : Kd.R d T w1 base (fun _ => True) v xs :=
 Kd.R_mono (Kd.R_keep (Kd.R_types h hb (by rw [hE]; simp; exact ht)) hk (fun k hk => hk.2)) (fun _ _ => trivial)
theorem R_reader {α : Type} {d : Kd α} {T : TypeId} {w0 w w1 : World} {base g : Nat} {v : Value} {xs : List α} {s : Rs} (h : Kd.R d T w base (fun _ => True) v xs) (hE : d.E = []) (hI : IsRs w0 w g s) (ht : T ≠ 153) (hk : KeepBut w w1 g none) : Kd.R d T w1 base (fun _ => True) v xs := by
 obtain ⟨cells, hb⟩ := rd_blk hI; exact R_block h hE hb ht hk
theorem R_ne {α : Type} {d : Kd α} {T t : TypeId} {w : World} {base g : Nat} {v : Value} {xs : List α} {cells : Array Value} (h : Kd.R d T w base (fun _ => True) v xs) (hb : w.heap[g]? = some (.cells cells t (0, 0))) (ht : T ≠ t) : some g ≠ v.ownBlock := by
 obtain ⟨_, inner, ho, _⟩ := h; exact own_ne ho hb ht
theorem rd_ne {α : Type} {d : Kd α} {T : TypeId} {w0 w : World} {base g : Nat} {v : Value} {xs : List α} {s : Rs} (h : Kd.R d T w base (fun _ => True) v xs) (hI : IsRs w0 w g s) (ht : T ≠ 153) : some g ≠ v.ownBlock := by
 obtain ⟨cells, hb⟩ := rd_blk hI; exact R_ne h hb ht
theorem blk_grown {w w1 : World} {g : Nat} {row : Option Nat} {o : Obj} (h : w.heap[g]? = some o) (hg : w.grownBy w1 row) (hne : some g ≠ row) : w1.heap[g]? = some o := (hg.block g (blk_lt h) hne).trans h
theorem rd_set {w0 W : World} {g b j : Nat} {s : Rs} (h : IsRs w0 W g s) (hne : g ≠ b) (u : Value) : IsRs w0 (W.setCell ⟨b, j, none⟩ u) g s := IsRd.keep h ((KeepBut.refl W b none).set_ j u) hne
theorem rd_bound {s t : Rs} {x : Int} (h : rdB s = (x, t)) {w0 W : World} {g : Nat} (hI : IsRs w0 W g s) : 0 ≤ x ∧ x < 256 := by
 have := byte1_bd s.1 s.2 hI.1; rw [show byte1 s.1 s.2 = (x, t) from h] at this; exact this
theorem C_oneCo {w : World} {g : Nat} {t : TypeId} (x : Co) (h : w.heap[g]? = some (.cells #[.string x.1, .int .i64 x.2.1, .int .i64 x.2.2.1, .int .i64 x.2.2.2.1, .string x.2.2.2.2] t (0, 0))) : Kd.C kCo w (some ⟨g, 0, none⟩) 1 [x] := by
 refine ⟨rfl, by decide, fun _ => ⟨⟨g, 0, none⟩, rfl, fun i y hy => ?_⟩⟩
 obtain ⟨rfl, rfl⟩ : i = 0 ∧ y = x := by
  rcases i with _ | i
  ·exact ⟨rfl, (Option.some.inj hy).symm⟩
  ·simp at hy
 refine ⟨[.string y.1, .int .i64 y.2.1, .int .i64 y.2.2.1, .int .i64 y.2.2.2.1, .string y.2.2.2.2], rfl, rfl, fun j u hu => ?_⟩; rw [add_plain, blk_cell h _]
 simpa using hu
theorem C_oneAt {w : World} {g : Nat} {t : TypeId} (x : At) (h : w.heap[g]? = some (.cells #[.string x.1, .bool x.2.1, .int .i64 x.2.2.1, .string x.2.2.2] t (0, 0))) : Kd.C kAt w (some ⟨g, 0, none⟩) 1 [x] := by
 refine ⟨rfl, by decide, fun _ => ⟨⟨g, 0, none⟩, rfl, fun i y hy => ?_⟩⟩
 obtain ⟨rfl, rfl⟩ : i = 0 ∧ y = x := by
  rcases i with _ | i
  ·exact ⟨rfl, (Option.some.inj hy).symm⟩
  ·simp at hy
 refine ⟨[.string y.1, .bool y.2.1, .int .i64 y.2.2.1, .string y.2.2.2], rfl, rfl, fun j u hu => ?_⟩; rw [add_plain, blk_cell h _]
 simpa using hu
def Past (n : Nat) (A : Option Addr) : Prop := ∀ ad, A = some ad → n ≤ ad.block
theorem Past.none (n : Nat) : Past n none := fun _ e => by cases e
theorem Past.le {n m : Nat} {A : Option Addr} (h : Past n A) (hm : m ≤ n) : Past m A := fun ad e => Nat.le_trans hm (h ad e)
theorem past_of {α : Type} {d : Kd α} {T : TypeId} {w : World} {base n c : Nat} {A : Option Addr} {xs : List α} (h : Kd.R d T w base (fun _ => True) (.slice A n c) xs) : Past base A := by
 rintro ad rfl; exact Kd.R_base h _ rfl
theorem C_keepF {α : Type} {d : Kd α} (hK : ∀ W W' x cs, d.K W x cs → d.K W' x cs) {w w1 : World} {A : Option Addr} {n g : Nat} {xs : List α} (h : Kd.C d w A n xs) (hk : KeepBut w w1 g none) (hf : ∀ ad, A = some ad → ad.block ≠ g) : Kd.C d w1 A n xs :=
 ⟨h.1, h.2.1, fun hn => by
  obtain ⟨ad, e, hc⟩ := h.2.2 hn; refine ⟨ad, e, fun i x hx => ?_⟩; obtain ⟨cs, hl, hK', hcell⟩ := hc i x hx; exact ⟨cs, hl, hK _ _ _ _ hK', fun j u hu => keep_cell hk (hcell j u hu) (by rw [add_block]; exact hf ad e)⟩⟩
def id1 (bs : List Int) (bad : Bool) : (Int × Int) × List Int × Bool :=
 (if (number1 (number1 bs bad).2.1 (number1 bs bad).2.2).2.2 = true then (0, 0) else ((number1 bs bad).1, (number1 (number1 bs bad).2.1 (number1 bs bad).2.2).1), (number1 (number1 bs bad).2.1 (number1 bs bad).2.2).2)
theorem rid_end {w0 w w2 : World} {g : Nat} {bs2 : List Int} {bad2 : Bool} (x y : Value) (o : Obj) (hw0 : w0.heap.size ≤ w.heap.size) (hgl : g < w.heap.size)
  (hK2 : KeepBut (w.alloc (.cells #[.int .i64 0, .int .i64 0] 48)) w2 g none) (hI : IsRd w0 w2 g bs2 bad2) (hB : Below w0.heap.size w0 w2) :
  IsRd w0 (((w2.setCell ⟨w.heap.size, 0, none⟩ x).setCell ⟨w.heap.size, 1, none⟩ y).alloc o) g bs2 bad2 ∧ Below w0.heap.size w0 (((w2.setCell ⟨w.heap.size, 0, none⟩ x).setCell ⟨w.heap.size, 1, none⟩ y).alloc o) ∧ KeepBut w (((w2.setCell ⟨w.heap.size, 0, none⟩ x).setCell ⟨w.heap.size, 1, none⟩ y).alloc o) g none := by
 have k1 : KeepBut w2 (((w2.setCell ⟨w.heap.size, 0, none⟩ x).setCell ⟨w.heap.size, 1, none⟩ y).alloc o) w.heap.size none := (((KeepBut.refl w2 w.heap.size none).set_ 0 x).set_ 1 y).trans (KeepBut.of_below (below_alloc (Below.refl _ _) o) _ none) (.inl rfl); refine ⟨hI.keep k1 (by omega), below_alloc (below_set (below_set hB hw0) hw0) o, ?_⟩; have hs : (w.alloc (.cells #[.int .i64 0, .int .i64 0] 48)).heap.size = w.heap.size + 1 := by simp
 have h2 := hK2.1; refine ⟨by have := k1.1; omega, fun i hi hg hr => ?_⟩; exact (k1.2 i (by omega) (by omega) (by simp)).trans ((hK2.2 i (by omega) hg (by simp)).trans ((below_alloc (Below.refl w.heap.size w) _).block i hi))
set_option maxHeartbeats 1600000 in
theorem rid_calls (g : Nat) (bs : List Int) (bad : Bool) (w0 w : World) (hI : IsRd w0 w g bs bad) (hB : Below w0.heap.size w0 w) :
  Calls Tryd.prog 94 #[.pointer (some ⟨g, 0, none⟩)] w fun e w' => e = .returned (.agg #[.int .i64 (id1 bs bad).1.1, .int .i64 (id1 bs bad).1.2]) ∧
   IsRd w0 w' g (id1 bs bad).2.1 (id1 bs bad).2.2 ∧ Below w0.heap.size w0 w' ∧ KeepBut w w' g none := by
 have hgl := hI.lt; have hne : w.heap.size ≠ g := by omega
 have hw0 : w0.heap.size ≤ w.heap.size := hB.size; have H1 := Lib.hid (number_calls g bs bad w0 _ (hI.alloc (.cells #[.int .i64 0, .int .i64 0] 48)) (below_alloc hB (.cells #[.int .i64 0, .int .i64 0] 48))); have HBb := sd (blk_new w (.cells #[.int .i64 0, .int .i64 0] 48)); clear hI hB; unfold id1; generalize hz : number1 bs bad = z at *; obtain ⟨n1, bs1, bad1⟩ := z; clear hz
 simp only at H1 ⊢
 have H2 := Lib.hid (fun W h1 h2 => number_calls g bs1 bad1 w0 W h1 h2); generalize hz : number1 bs1 bad1 = z at *; obtain ⟨n2, bs2, bad2⟩ := z; clear hz
 simp only at H2 ⊢
 cases bad2
 ·simp only [Bool.false_eq_true, if_false]
  go_enter Tryd.func94, Tryd.ntmps94
  go_wp2_with fail; refine H1.out.mono ?_; rintro e w1 ⟨rfl, hI, hB, hK⟩; have H2a := Lib.hid (H2.out w1 hI hB); have HB1 := sd (hK.blk HBb.out hne (by simp)); have HK := sd hK; clear hI hB hK H1 H2; go_wp2_with fail; refine H2a.out.mono ?_; rintro e w2 ⟨rfl, hI, hB, hK⟩; have HB2 := sd (hK.blk HB1.out hne (by simp)); have HK2 := sd (KeepBut_trans HK.out hK); have HI := sd hI; have HBw := sd hB; clear hI hB hK H2a HK HB1; have hc1 : w2.cell? ⟨g, 1, none⟩ = some (.bool false) := by obtain ⟨_, A, c, hb, _⟩ := HI.out; exact rd_cell1 hb
  have p0 := blk_cell HB2.out 0; have p1 := blk_cell HB2.out 1; have f0 := blk_frozen HB2.out 0; have f1 := blk_frozen HB2.out 1; have hl2 := blk_lt HB2.out; have hgl2 := HI.out.lt; have HF := blk_alloc (blk_put (blk_put HB2.out 0 (.int .i64 n1) rfl) 1 (.int .i64 n2) rfl) (.cells #[.int .i64 n1, .int .i64 n2] 48); have q0 := (blk_cell HF 0).trans (rfl : _ = some (Value.int .i64 n1)); have q1 := (blk_cell HF 1).trans (rfl : _ = some (Value.int .i64 n2)); have HQ := sd (And.intro q0 q1); clear q0 q1 HF; go_wp2; refine bodyPost_ret (v := .agg #[.int .i64 n1, .int .i64 n2]) (by simp [results, Tryd.results94, go_sem, HQ.out.1, HQ.out.2]) rfl ⟨rfl, ?_⟩; exact rid_end _ _ _ hw0 hgl HK2.out HI.out HBw.out
 ·simp only [if_true]
  go_enter Tryd.func94, Tryd.ntmps94
  go_wp2_with fail; refine H1.out.mono ?_; rintro e w1 ⟨rfl, hI, hB, hK⟩; have H2a := Lib.hid (H2.out w1 hI hB); have HB1 := sd (hK.blk HBb.out hne (by simp)); have HK := sd hK; clear hI hB hK H1 H2; go_wp2_with fail; refine H2a.out.mono ?_; rintro e w2 ⟨rfl, hI, hB, hK⟩; have HB2 := sd (hK.blk HB1.out hne (by simp)); have HK2 := sd (KeepBut_trans HK.out hK); have HI := sd hI; have HBw := sd hB; clear hI hB hK H2a HK HB1; have hc1 : w2.cell? ⟨g, 1, none⟩ = some (.bool true) := by obtain ⟨_, A, c, hb, _⟩ := HI.out; exact rd_cell1 hb
  have p0 := blk_cell HB2.out 0; have p1 := blk_cell HB2.out 1; have f0 := blk_frozen HB2.out 0; have f1 := blk_frozen HB2.out 1; have hl2 := blk_lt HB2.out; have hgl2 := HI.out.lt; have HF := blk_alloc (blk_put (blk_put HB2.out 0 (.int .i64 0) rfl) 1 (.int .i64 0) rfl) (.cells #[.int .i64 n1, .int .i64 n2] 48); have q0 := (blk_cell HF 0).trans (rfl : _ = some (Value.int .i64 0)); have q1 := (blk_cell HF 1).trans (rfl : _ = some (Value.int .i64 0)); have HQ := sd (And.intro q0 q1); clear q0 q1 HF; go_wp2; refine bodyPost_ret (v := .agg #[.int .i64 0, .int .i64 0]) (by simp [results, Tryd.results94, go_sem, HQ.out.1, HQ.out.2]) rfl ⟨rfl, ?_⟩; exact rid_end _ _ _ hw0 hgl HK2.out HI.out HBw.out
def rdI (s : Rs) : (Int × Int) × Rs := id1 s.1 s.2
theorem rdI_calls {s t : Rs} {x y : Int} (h : rdI s = ((x, y), t)) (g : Nat) (w0 w : World) (hI : IsRs w0 w g s) (hB : Below w0.heap.size w0 w) :
  Calls Tryd.prog 94 #[.pointer (some ⟨g, 0, none⟩)] w fun e w' => e = .returned (.agg #[.int .i64 x, .int .i64 y]) ∧ IsRs w0 w' g t ∧ Below w0.heap.size w0 w' ∧ KeepBut w w' g none := by
 have hc := rid_calls g s.1 s.2 w0 w hI hB; rw [show id1 s.1 s.2 = ((x, y), t) from h] at hc; exact hc
theorem LiesM.keep {w w1 : World} {m : MsgD} {A5 A6 : Option Addr} {g n : Nat} (h : LiesM w m A5 A6) (hk : KeepBut w w1 g none) (h5 : Past n A5) (h6 : Past n A6) (hg : g < n) : LiesM w1 m A5 A6 :=
 ⟨C_keepF (fun _ _ _ _ h => h) h.p hk (fun ad e => by have := h5 ad e; omega), C_keepF (fun _ _ _ _ h => h) h.s hk (fun ad e => by have := h6 ad e; omega)⟩
end Go.Proofs.YtbplemhjhpfkgaaDoor.Wr

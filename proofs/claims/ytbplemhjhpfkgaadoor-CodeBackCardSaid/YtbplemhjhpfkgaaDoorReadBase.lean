/-
  What code.read reads: one field behind the other.
-/
import Derived.Test.YtbplemhjhpfkgaaDoorCodeAsk
namespace Go.Proofs.YtbplemhjhpfkgaaDoor.Cd
open Go.RowKit Go.Proofs.YtbplemhjhpfkgaaDoorW.PrintWords Go.Proofs.YtbplemhjhpfkgaaDoorW.PrintLast Go.Proofs.YtbplemhjhpfkgaaDoorW.PrintMore Go.Proofs.YtbplemhjhpfkgaaDoor.Rd
set_option linter.unusedVariables false
set_option linter.unusedSimpArgs false
/-- A reader's state: the bytes that are left, and whether something was asked that wasn't there. -/
abbrev Rs := List Int × Bool
def rdT (s : Rs) : ByteArray × Rs := text1 s.1 s.2
def rdB (s : Rs) : Int × Rs := byte1 s.1 s.2
def rdN (s : Rs) : Int × Rs := number1 s.1 s.2
abbrev IsRs (w0 W : World) (g : Nat) (s : Rs) : Prop := IsRd w0 W g s.1 s.2
theorem rdT_calls {s t : Rs} {x : ByteArray} (h : rdT s = (x, t)) (g : Nat) (w0 w : World) (hI : IsRs w0 w g s) (hB : Below w0.heap.size w0 w) :
    Calls Tryd.prog 93 #[.pointer (some ⟨g, 0, none⟩)] w fun e w' => e = .returned (.string x) ∧ IsRs w0 w' g t ∧ Below w0.heap.size w0 w' ∧ KeepBut w w' g none := by
  have hc := text_calls g s.1 s.2 w0 w hI hB
  rw [show text1 s.1 s.2 = (x, t) from h] at hc
  exact hc
theorem rdN_calls {s t : Rs} {x : Int} (h : rdN s = (x, t)) (g : Nat) (w0 w : World) (hI : IsRs w0 w g s) (hB : Below w0.heap.size w0 w) :
    Calls Tryd.prog 91 #[.pointer (some ⟨g, 0, none⟩)] w fun e w' => e = .returned (.int .i64 x) ∧ IsRs w0 w' g t ∧ Below w0.heap.size w0 w' ∧ KeepBut w w' g none := by
  have hc := number_calls g s.1 s.2 w0 w hI hB
  rw [show number1 s.1 s.2 = (x, t) from h] at hc
  exact hc
theorem rdB_calls {s t : Rs} {x : Int} (h : rdB s = (x, t)) (g : Nat) (w0 w : World) (hI : IsRs w0 w g s) (hB : Below w0.heap.size w0 w) :
    Calls Tryd.prog 90 #[.pointer (some ⟨g, 0, none⟩)] w fun e w' => e = .returned (.int .u8 x) ∧ IsRs w0 w' g t ∧ Below w0.heap.size w0 w' ∧ KeepBut w w' g none := by
  have hc := byte_calls g s.1 s.2 w0 w hI hB
  rw [show byte1 s.1 s.2 = (x, t) from h] at hc
  exact hc
def rdCo (s : Rs) : Co × Rs :=
  ((((rdT s).1, (rdB (rdT s).2).1, (rdN (rdB (rdT s).2).2).1, (rdN (rdN (rdB (rdT s).2).2).2).1, (rdT (rdN (rdN (rdB (rdT s).2).2).2).2).1)), (rdT (rdN (rdN (rdB (rdT s).2).2).2).2).2)
theorem rdCo_of {s s1 s2 s3 s4 s5 : Rs} {n : ByteArray} {k lo hi : Int} {t : ByteArray} (h1 : rdT s = (n, s1)) (h2 : rdB s1 = (k, s2)) (h3 : rdN s2 = (lo, s3)) (h4 : rdN s3 = (hi, s4)) (h5 : rdT s4 = (t, s5)) : rdCo s = ((n, k, lo, hi, t), s5) := by
  simp only [rdCo, h1, h2, h3, h4, h5]
def rdAt (s : Rs) : At × Rs :=
  (((rdT s).1, (rdB (rdT s).2).1 == 1, (rdN (rdB (rdT s).2).2).1, (rdT (rdN (rdB (rdT s).2).2).2).1), (rdT (rdN (rdB (rdT s).2).2).2).2)
theorem rdAt_of {s s1 s2 s3 s4 : Rs} {n : ByteArray} {k m : Int} {t : ByteArray} (h1 : rdT s = (n, s1)) (h2 : rdB s1 = (k, s2)) (h3 : rdN s2 = (m, s3)) (h4 : rdT s3 = (t, s4)) : rdAt s = ((n, k == 1, m, t), s4) := by
  simp only [rdAt, h1, h2, h3, h4]
def rdMany {α : Type} (f : Rs → α × Rs) : Nat → Rs → List α → List α × Rs
  | 0, s, l => (l, s)
  | k + 1, s, l => if s.2 = true then (l, s) else rdMany f k (f s).2 (l ++ [(f s).1])
theorem rdMany_bad {α : Type} (f : Rs → α × Rs) (k : Nat) (s : Rs) (l : List α) (h : s.2 = true) : rdMany f k s l = (l, s) := by cases k <;> simp [rdMany, h]
theorem rdMany_step {α : Type} (f : Rs → α × Rs) (k : Nat) (s : Rs) (l : List α) (h : s.2 = false) : rdMany f (k + 1) s l = rdMany f k (f s).2 (l ++ [(f s).1]) := by simp [rdMany, h]
theorem rdMany_len {α : Type} (f : Rs → α × Rs) : ∀ (k : Nat) (s : Rs) (l : List α), (rdMany f k s l).1.length ≤ l.length + k
  | 0, _, _ => by simp [rdMany]
  | k + 1, s, l => by
    unfold rdMany
    split
    · simp
    · have := rdMany_len f k (f s).2 (l ++ [(f s).1])
      rw [List.length_append, List.length_singleton] at this
      omega
/-- The whole operation. -/
def readD (s : Rs) : OpD × Rs :=
  let a0 := rdB s; let a1 := rdN a0.2; let a2 := rdN a1.2; let a3 := rdN a2.2; let a4 := rdN a3.2; let a5 := rdN a4.2
  let b := rdB a5.2; let p := rdMany rdCo b.1.toNat b.2 []; let c := rdB p.2; let q := rdMany rdAt c.1.toNat c.2 []; let r := rdT q.2
  (⟨a0.1, a1.1, a2.1, a3.1, a4.1, a5.1, p.1, q.1, bytesOf r.1⟩, r.2)
theorem readD_of {s s0 s1 s2 s3 s4 s5 s6 s7 s8 s9 s10 : Rs} {k c q h a t m n : Int} {p : List Co} {u : List At} {r : ByteArray} (h0 : rdB s = (k, s0)) (h1 : rdN s0 = (c, s1)) (h2 : rdN s1 = (q, s2)) (h3 : rdN s2 = (h, s3)) (h4 : rdN s3 = (a, s4)) (h5 : rdN s4 = (t, s5))
    (h6 : rdB s5 = (m, s6)) (h7 : rdMany rdCo m.toNat s6 [] = (p, s7)) (h8 : rdB s7 = (n, s8)) (h9 : rdMany rdAt n.toNat s8 [] = (u, s9)) (h10 : rdT s9 = (r, s10)) : readD s = (⟨k, c, q, h, a, t, p, u, bytesOf r⟩, s10) := by
  simp only [readD, h0, h1, h2, h3, h4, h5, h6, h7, h8, h9, h10]

theorem byte1_byt {bs : List Int} (h : Byt bs) (bad : Bool) : Byt (byte1 bs bad).2.1 := by
  unfold byte1
  cases bad
  · cases bs with
    | nil => exact h
    | cons b r => exact fun x hx => h x (List.mem_cons_of_mem b hx)
  · exact h
theorem takes_byt2 {bs : List Int} (h : Byt bs) (bad : Bool) (n : Int) : Byt (takes bs bad n).2.1 := by
  unfold takes
  split
  · exact h
  · exact fun x hx => h x (List.mem_of_mem_drop hx)
theorem rdT_byt {s t : Rs} {x : ByteArray} (h : rdT s = (x, t)) (hb : Byt s.1) : Byt t.1 := by
  have h1 : (text1 s.1 s.2).2.1 = t.1 := by rw [show text1 s.1 s.2 = (x, t) from h]
  rw [← h1]
  exact takes_byt2 (byte1_byt hb _) _ _
theorem rdB_range {s t : Rs} {x : Int} (h : rdB s = (x, t)) (hb : Byt s.1) : 0 ≤ x ∧ x < 256 := by
  have := byte1_bd s.1 s.2 hb
  rw [show byte1 s.1 s.2 = (x, t) from h] at this
  exact this
theorem rdT_size {s t : Rs} {x : ByteArray} (h : rdT s = (x, t)) (hb : Byt s.1) : x.size ≤ 255 := by
  have h1 : (text1 s.1 s.2).1 = x := by rw [show text1 s.1 s.2 = (x, t) from h]
  have h2 := byte1_bd s.1 s.2 hb
  obtain ⟨n, hn⟩ : ∃ n : Nat, (byte1 s.1 s.2).1 = n := ⟨(byte1 s.1 s.2).1.toNat, by omega⟩
  have h3 := takes_len (byte1 s.1 s.2).2.1 (byte1 s.1 s.2).2.2 n
  rw [← h1]
  unfold text1
  rw [hn]
  simp only [strOfNums, ByteArray.size, List.size_toArray, List.length_map]
  omega
/-! ### Rows beside a reader -/
theorem infoCo : (Tryd.prog.info? 44).map (fun i => (i.zero, i.size, i.bytes)) = some (some (.agg #[(.string ⟨#[]⟩), (.int .i64 0), (.int .i64 0), (.int .i64 0), (.string ⟨#[]⟩)]), 5, 56) := by kernel_rfl
theorem infoAt : (Tryd.prog.info? 59).map (fun i => (i.zero, i.size, i.bytes)) = some (some (.agg #[(.string ⟨#[]⟩), (.bool false), (.int .i64 0), (.string ⟨#[]⟩)]), 4, 48) := by kernel_rfl
theorem rd_blk {w0 W : World} {g : Nat} {s : Rs} (h : IsRs w0 W g s) : ∃ cells, W.heap[g]? = some (.cells cells 153 (0, 0)) := by
  obtain ⟨_, A, c, hb, _⟩ := h
  exact ⟨_, hb⟩
theorem R_block {α : Type} {d : Kd α} {T t : TypeId} {w w1 : World} {base g : Nat} {v : Value} {xs : List α} {cells : Array Value} (h : Kd.R d T w base (fun _ => True) v xs) (hE : d.E = []) (hb : w.heap[g]? = some (.cells cells t (0, 0))) (ht : T ≠ t) (hk : KeepBut w w1 g none) : Kd.R d T w1 base (fun _ => True) v xs :=
  Kd.R_mono (Kd.R_keep (Kd.R_types h hb (by rw [hE]; simp; exact ht)) hk (fun k hk => hk.2)) (fun _ _ => trivial)
theorem R_reader {α : Type} {d : Kd α} {T : TypeId} {w0 w w1 : World} {base g : Nat} {v : Value} {xs : List α} {s : Rs} (h : Kd.R d T w base (fun _ => True) v xs) (hE : d.E = []) (hI : IsRs w0 w g s) (ht : T ≠ 153) (hk : KeepBut w w1 g none) : Kd.R d T w1 base (fun _ => True) v xs := by
  obtain ⟨cells, hb⟩ := rd_blk hI
  exact R_block h hE hb ht hk
theorem R_ne {α : Type} {d : Kd α} {T t : TypeId} {w : World} {base g : Nat} {v : Value} {xs : List α} {cells : Array Value} (h : Kd.R d T w base (fun _ => True) v xs) (hb : w.heap[g]? = some (.cells cells t (0, 0))) (ht : T ≠ t) : some g ≠ v.ownBlock := by
  obtain ⟨_, inner, ho, _⟩ := h
  exact own_ne ho hb ht
theorem R_apart {α : Type} {d : Kd α} {T : TypeId} {w w1 : World} {base g : Nat} {v : Value} {xs : List α} (h : Kd.R d T w base (fun _ => True) v xs) (hE : d.E = []) (hne : some g ≠ v.ownBlock) (hk : KeepBut w w1 g none) : Kd.R d T w1 base (fun _ => True) v xs :=
  Kd.R_mono (Kd.R_keep (Kd.R_far1 h hE hne) hk (fun k hk => hk.2)) (fun _ _ => trivial)
theorem rd_ne {α : Type} {d : Kd α} {T : TypeId} {w0 w : World} {base g : Nat} {v : Value} {xs : List α} {s : Rs} (h : Kd.R d T w base (fun _ => True) v xs) (hI : IsRs w0 w g s) (ht : T ≠ 153) : some g ≠ v.ownBlock := by
  obtain ⟨cells, hb⟩ := rd_blk hI
  exact R_ne h hb ht
theorem blk_grown {w w1 : World} {g : Nat} {row : Option Nat} {o : Obj} (h : w.heap[g]? = some o) (hg : w.grownBy w1 row) (hne : some g ≠ row) : w1.heap[g]? = some o := (hg.block g (blk_lt h) hne).trans h
theorem rd_set {w0 W : World} {g b j : Nat} {s : Rs} (h : IsRs w0 W g s) (hne : g ≠ b) (u : Value) : IsRs w0 (W.setCell ⟨b, j, none⟩ u) g s := IsRd.keep h ((KeepBut.refl W b none).set_ j u) hne
theorem rd_bound {s t : Rs} {x : Int} (h : rdB s = (x, t)) {w0 W : World} {g : Nat} (hI : IsRs w0 W g s) : 0 ≤ x ∧ x < 256 := by
  have := byte1_bd s.1 s.2 hI.1
  rw [show byte1 s.1 s.2 = (x, t) from h] at this
  exact this
theorem C_oneCo {w : World} {g : Nat} {t : TypeId} (x : Co) (h : w.heap[g]? = some (.cells #[.string x.1, .int .i64 x.2.1, .int .i64 x.2.2.1, .int .i64 x.2.2.2.1, .string x.2.2.2.2] t (0, 0))) : Kd.C kCo w (some ⟨g, 0, none⟩) 1 [x] := by
  refine ⟨rfl, by decide, fun _ => ⟨⟨g, 0, none⟩, rfl, fun i y hy => ?_⟩⟩
  obtain ⟨rfl, rfl⟩ : i = 0 ∧ y = x := by
    rcases i with _ | i
    · exact ⟨rfl, (Option.some.inj hy).symm⟩
    · simp at hy
  refine ⟨[.string y.1, .int .i64 y.2.1, .int .i64 y.2.2.1, .int .i64 y.2.2.2.1, .string y.2.2.2.2], rfl, rfl, fun j u hu => ?_⟩
  rw [add_plain, blk_cell h _]
  simpa using hu
theorem C_oneAt {w : World} {g : Nat} {t : TypeId} (x : At) (h : w.heap[g]? = some (.cells #[.string x.1, .bool x.2.1, .int .i64 x.2.2.1, .string x.2.2.2] t (0, 0))) : Kd.C kAt w (some ⟨g, 0, none⟩) 1 [x] := by
  refine ⟨rfl, by decide, fun _ => ⟨⟨g, 0, none⟩, rfl, fun i y hy => ?_⟩⟩
  obtain ⟨rfl, rfl⟩ : i = 0 ∧ y = x := by
    rcases i with _ | i
    · exact ⟨rfl, (Option.some.inj hy).symm⟩
    · simp at hy
  refine ⟨[.string y.1, .bool y.2.1, .int .i64 y.2.2.1, .string y.2.2.2], rfl, rfl, fun j u hu => ?_⟩
  rw [add_plain, blk_cell h _]
  simpa using hu
/-- A value of nine cells laid over another one. -/
theorem put9 {W : World} {b : Nat} {t : TypeId} {z0 z1 z2 z3 z4 z5 z6 z7 z8 : Value} (h : W.heap[b]? = some (.cells #[z0, z1, z2, z3, z4, z5, z6, z7, z8] t (0, 0))) (u0 u1 u2 u3 u4 u5 u6 u7 u8 : Value) :
    KeepBut W (((((((((W.setCell ⟨b, 0, none⟩ (u0)).setCell ⟨b, 1, none⟩ (u1)).setCell ⟨b, 2, none⟩ (u2)).setCell ⟨b, 3, none⟩ (u3)).setCell ⟨b, 4, none⟩ (u4)).setCell ⟨b, 5, none⟩ (u5)).setCell ⟨b, 6, none⟩ (u6)).setCell ⟨b, 7, none⟩ (u7)).setCell ⟨b, 8, none⟩ (u8)) b none ∧ (((((((((W.setCell ⟨b, 0, none⟩ (u0)).setCell ⟨b, 1, none⟩ (u1)).setCell ⟨b, 2, none⟩ (u2)).setCell ⟨b, 3, none⟩ (u3)).setCell ⟨b, 4, none⟩ (u4)).setCell ⟨b, 5, none⟩ (u5)).setCell ⟨b, 6, none⟩ (u6)).setCell ⟨b, 7, none⟩ (u7)).setCell ⟨b, 8, none⟩ (u8)).heap[b]? = some (.cells #[u0, u1, u2, u3, u4, u5, u6, u7, u8] t (0, 0)) ∧ ∀ w0 : World, Below w0.heap.size w0 W → w0.heap.size ≤ b → Below w0.heap.size w0 (((((((((W.setCell ⟨b, 0, none⟩ (u0)).setCell ⟨b, 1, none⟩ (u1)).setCell ⟨b, 2, none⟩ (u2)).setCell ⟨b, 3, none⟩ (u3)).setCell ⟨b, 4, none⟩ (u4)).setCell ⟨b, 5, none⟩ (u5)).setCell ⟨b, 6, none⟩ (u6)).setCell ⟨b, 7, none⟩ (u7)).setCell ⟨b, 8, none⟩ (u8)) :=
  ⟨((((((((((KeepBut.refl W b none).set_ 0 u0).set_ 1 u1).set_ 2 u2).set_ 3 u3).set_ 4 u4).set_ 5 u5).set_ 6 u6).set_ 7 u7).set_ 8 u8), (blk_put (cs' := #[u0, u1, u2, u3, u4, u5, u6, u7, u8]) (blk_put (cs' := #[u0, u1, u2, u3, u4, u5, u6, u7, z8]) (blk_put (cs' := #[u0, u1, u2, u3, u4, u5, u6, z7, z8]) (blk_put (cs' := #[u0, u1, u2, u3, u4, u5, z6, z7, z8]) (blk_put (cs' := #[u0, u1, u2, u3, u4, z5, z6, z7, z8]) (blk_put (cs' := #[u0, u1, u2, u3, z4, z5, z6, z7, z8]) (blk_put (cs' := #[u0, u1, u2, z3, z4, z5, z6, z7, z8]) (blk_put (cs' := #[u0, u1, z2, z3, z4, z5, z6, z7, z8]) (blk_put (cs' := #[u0, z1, z2, z3, z4, z5, z6, z7, z8]) h 0 u0 rfl) 1 u1 rfl) 2 u2 rfl) 3 u3 rfl) 4 u4 rfl) 5 u5 rfl) 6 u6 rfl) 7 u7 rfl) 8 u8 rfl), fun w0 hB hb => (below_set (below_set (below_set (below_set (below_set (below_set (below_set (below_set (below_set hB hb) hb) hb) hb) hb) hb) hb) hb) hb)⟩
/-! ### Rows that lie behind a place -/
def Past (n : Nat) (A : Option Addr) : Prop := ∀ ad, A = some ad → n ≤ ad.block
theorem Past.none (n : Nat) : Past n none := fun _ e => by cases e
theorem Past.le {n m : Nat} {A : Option Addr} (h : Past n A) (hm : m ≤ n) : Past m A := fun ad e => Nat.le_trans hm (h ad e)
theorem past_of {α : Type} {d : Kd α} {T : TypeId} {w : World} {base n c : Nat} {A : Option Addr} {xs : List α} (h : Kd.R d T w base (fun _ => True) (.slice A n c) xs) : Past base A := by
  rintro ad rfl
  exact Kd.R_base h _ rfl
theorem C_keepF {α : Type} {d : Kd α} (hK : ∀ W W' x cs, d.K W x cs → d.K W' x cs) {w w1 : World} {A : Option Addr} {n g : Nat} {xs : List α} (h : Kd.C d w A n xs) (hk : KeepBut w w1 g none) (hf : ∀ ad, A = some ad → ad.block ≠ g) : Kd.C d w1 A n xs :=
  ⟨h.1, h.2.1, fun hn => by
    obtain ⟨ad, e, hc⟩ := h.2.2 hn
    refine ⟨ad, e, fun i x hx => ?_⟩
    obtain ⟨cs, hl, hK', hcell⟩ := hc i x hx
    exact ⟨cs, hl, hK _ _ _ _ hK', fun j u hu => keep_cell hk (hcell j u hu) (by rw [add_block]; exact hf ad e)⟩⟩
theorem Lies.keep {w w1 : World} {o : OpD} {A6 A7 A8 : Option Addr} {g n : Nat} (h : Lies w o A6 A7 A8) (hk : KeepBut w w1 g none) (h6 : Past n A6) (h7 : Past n A7) (h8 : Past n A8) (hg : g < n) : Lies w1 o A6 A7 A8 :=
  ⟨C_keepF (fun _ _ _ _ h => h) h.p hk (fun ad e => by have := h6 ad e; omega), C_keepF (fun _ _ _ _ h => h) h.s hk (fun ad e => by have := h7 ad e; omega), C_keepF (fun _ _ _ _ h => h) h.r hk (fun ad e => by have := h8 ad e; omega)⟩
end Go.Proofs.YtbplemhjhpfkgaaDoor.Cd

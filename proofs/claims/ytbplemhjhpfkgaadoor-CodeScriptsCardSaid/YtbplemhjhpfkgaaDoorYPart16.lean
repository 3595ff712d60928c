/-
 What code.read reads: one field behind the other.
-/
import Derived.Test.YtbplemhjhpfkgaaDoorYCodeAsk
import Derived.Test.YtbplemhjhpfkgaaDoorYCodeRight
import Derived.Test.YtbplemhjhpfkgaaDoorYKinds8
import Derived.Test.YtbplemhjhpfkgaaDoorYPart6
import Derived.Test.YtbplemhjhpfkgaaDoorYMsg
import Derived.Test.YtbplemhjhpfkgaaDoorYRefBytes
set_option linter.unusedVariables false
set_option linter.unusedSimpArgs false
namespace Go.Proofs.YtbplemhjhpfkgaaDoor.Cd
open Go.RowKit YtbplemhjhpfkgaaDoorW.PrintWords YtbplemhjhpfkgaaDoorW.PrintLast YtbplemhjhpfkgaaDoorW.PrintMore Rd
abbrev Rs := List Int × Bool
def rdT (s : Rs) : ByteArray × Rs := text1 s.1 s.2
def rdB (s : Rs) : Int × Rs := byte1 s.1 s.2
def rdN (s : Rs) : Int × Rs := number1 s.1 s.2
abbrev IsRs (w0 W : World) (g : Nat) (s : Rs) : Prop := IsRd w0 W g s.1 s.2
theorem rdT_calls {s t : Rs} {x : ByteArray} (h : rdT s = (x, t)) (g : Nat) (w0 w : World) (hI : IsRs w0 w g s) (hB : Below w0.heap.size w0 w) :
  Calls Tryd.prog 93 #[.pointer (some ⟨g, 0, none⟩)] w fun e w' => e = .returned (.string x) ∧ IsRs w0 w' g t ∧ Below w0.heap.size w0 w' ∧ KeepBut w w' g none := by
 have hc := text_calls g s.1 s.2 w0 w hI hB; rw [show text1 s.1 s.2 = (x, t) from h] at hc; exact hc
theorem rdN_calls {s t : Rs} {x : Int} (h : rdN s = (x, t)) (g : Nat) (w0 w : World) (hI : IsRs w0 w g s) (hB : Below w0.heap.size w0 w) :
  Calls Tryd.prog 91 #[.pointer (some ⟨g, 0, none⟩)] w fun e w' => e = .returned (.int .i64 x) ∧ IsRs w0 w' g t ∧ Below w0.heap.size w0 w' ∧ KeepBut w w' g none := by
 have hc := number_calls g s.1 s.2 w0 w hI hB; rw [show number1 s.1 s.2 = (x, t) from h] at hc; exact hc
theorem rdB_calls {s t : Rs} {x : Int} (h : rdB s = (x, t)) (g : Nat) (w0 w : World) (hI : IsRs w0 w g s) (hB : Below w0.heap.size w0 w) :
  Calls Tryd.prog 90 #[.pointer (some ⟨g, 0, none⟩)] w fun e w' => e = .returned (.int .u8 x) ∧ IsRs w0 w' g t ∧ Below w0.heap.size w0 w' ∧ KeepBut w w' g none := by
 have hc := byte_calls g s.1 s.2 w0 w hI hB; rw [show byte1 s.1 s.2 = (x, t) from h] at hc; exact hc
def rdCo (s : Rs) : Co × Rs :=
 ((((rdT s).1, (rdB (rdT s).2).1, (rdN (rdB (rdT s).2).2).1, (rdN (rdN (rdB (rdT s).2).2).2).1, (rdT (rdN (rdN (rdB (rdT s).2).2).2).2).1)), (rdT (rdN (rdN (rdB (rdT s).2).2).2).2).2)
theorem rdCo_of {s s1 s2 s3 s4 s5 : Rs} {n : ByteArray} {k lo hi : Int} {t : ByteArray} (h1 : rdT s = (n, s1)) (h2 : rdB s1 = (k, s2)) (h3 : rdN s2 = (lo, s3)) (h4 : rdN s3 = (hi, s4)) (h5 : rdT s4 = (t, s5)) : rdCo s = ((n, k, lo, hi, t), s5) := by
 simp only [rdCo, h1, h2, h3, h4, h5]
def rdAt (s : Rs) : At × Rs :=
 (((rdT s).1, (rdB (rdT s).2).1 == 1, (rdN (rdB (rdT s).2).2).1, (rdT (rdN (rdB (rdT s).2).2).2).1), (rdT (rdN (rdB (rdT s).2).2).2).2)
theorem rdAt_of {s s1 s2 s3 s4 : Rs} {n : ByteArray} {k m : Int} {t : ByteArray} (h1 : rdT s = (n, s1)) (h2 : rdB s1 = (k, s2)) (h3 : rdN s2 = (m, s3)) (h4 : rdT s3 = (t, s4)) : rdAt s = ((n, k == 1, m, t), s4) := by
 simp only [rdAt, h1, h2, h3, h4]
def rdMany {α : Type} (f : Rs → α × Rs) : Nat → Rs → List α → List α × Rs
 | 0, s, l => (l, s)
 | k + 1, s, l => if s.2 = true then (l, s) else rdMany f k (f s).2 (l ++ [(f s).1])
theorem rdMany_bad {α : Type} (f : Rs → α × Rs) (k : Nat) (s : Rs) (l : List α) (h : s.2 = true) : rdMany f k s l = (l, s) := by cases k <;> simp [rdMany, h]
theorem rdMany_step {α : Type} (f : Rs → α × Rs) (k : Nat) (s : Rs) (l : List α) (h : s.2 = false) : rdMany f (k + 1) s l = rdMany f k (f s).2 (l ++ [(f s).1]) := by simp [rdMany, h]
theorem rdMany_len {α : Type} (f : Rs → α × Rs) : ∀ (k : Nat) (s : Rs) (l : List α), (rdMany f k s l).1.length ≤ l.length + k
 | 0, _, _ => by simp [rdMany]
 | k + 1, s, l => by
  unfold rdMany
  split
  ·simp
  ·have := rdMany_len f k (f s).2 (l ++ [(f s).1]); rw [List.length_append, List.length_singleton] at this; omega
def readD (s : Rs) : OpD × Rs :=
 let a0 := rdB s; let a1 := rdN a0.2; let a2 := rdN a1.2; let a3 := rdN a2.2; let a4 := rdN a3.2; let a5 := rdN a4.2
 let b := rdB a5.2; let p := rdMany rdCo b.1.toNat b.2 []; let c := rdB p.2; let q := rdMany rdAt c.1.toNat c.2 []; let r := rdT q.2
 (⟨a0.1, a1.1, a2.1, a3.1, a4.1, a5.1, p.1, q.1, bytesOf r.1⟩, r.2)
theorem readD_of {s s0 s1 s2 s3 s4 s5 s6 s7 s8 s9 s10 : Rs} {k c q h a t m n : Int} {p : List Co} {u : List At} {r : ByteArray} (h0 : rdB s = (k, s0)) (h1 : rdN s0 = (c, s1)) (h2 : rdN s1 = (q, s2)) (h3 : rdN s2 = (h, s3)) (h4 : rdN s3 = (a, s4)) (h5 : rdN s4 = (t, s5))
  (h6 : rdB s5 = (m, s6)) (h7 : rdMany rdCo m.toNat s6 [] = (p, s7)) (h8 : rdB s7 = (n, s8)) (h9 : rdMany rdAt n.toNat s8 [] = (u, s9)) (h10 : rdT s9 = (r, s10)) : readD s = (⟨k, c, q, h, a, t, p, u, bytesOf r⟩, s10) := by
 simp only [readD, h0, h1, h2, h3, h4, h5, h6, h7, h8, h9, h10]

theorem byte1_byt {bs : List Int} (h : Byt bs) (bad : Bool) : Byt (byte1 bs bad).2.1 := by
 unfold byte1; cases bad
 ·cases bs with
  | nil => exact h
  | cons b r => exact fun x hx => h x (List.mem_cons_of_mem b hx)
 ·exact h
theorem takes_byt2 {bs : List Int} (h : Byt bs) (bad : Bool) (n : Int) : Byt (takes bs bad n).2.1 := by
 unfold takes
 split
 ·exact h
 ·exact fun x hx => h x (List.mem_of_mem_drop hx)
theorem rdT_byt {s t : Rs} {x : ByteArray} (h : rdT s = (x, t)) (hb : Byt s.1) : Byt t.1 := by
 have h1 : (text1 s.1 s.2).2.1 = t.1 := by rw [show text1 s.1 s.2 = (x, t) from h]
 rw [← h1]; exact takes_byt2 (byte1_byt hb _) _ _
theorem rdB_range {s t : Rs} {x : Int} (h : rdB s = (x, t)) (hb : Byt s.1) : 0 ≤ x ∧ x < 256 := by
 have := byte1_bd s.1 s.2 hb; rw [show byte1 s.1 s.2 = (x, t) from h] at this; exact this
theorem rdT_size {s t : Rs} {x : ByteArray} (h : rdT s = (x, t)) (hb : Byt s.1) : x.size ≤ 255 := by
 have h1 : (text1 s.1 s.2).1 = x := by rw [show text1 s.1 s.2 = (x, t) from h]
 have h2 := byte1_bd s.1 s.2 hb; obtain ⟨n, hn⟩ : ∃ n : Nat, (byte1 s.1 s.2).1 = n := ⟨(byte1 s.1 s.2).1.toNat, by omega⟩; have h3 := takes_len (byte1 s.1 s.2).2.1 (byte1 s.1 s.2).2.2 n; rw [← h1]; unfold text1; rw [hn]; simp only [strOfNums, ByteArray.size, List.size_toArray, List.length_map]; omega
theorem infoCo : (Tryd.prog.info? 44).map (fun i => (i.zero, i.size, i.bytes)) = some (some (.agg #[(.string ⟨#[]⟩), (.int .i64 0), (.int .i64 0), (.int .i64 0), (.string ⟨#[]⟩)]), 5, 56) := by kernel_rfl
theorem infoAt : (Tryd.prog.info? 59).map (fun i => (i.zero, i.size, i.bytes)) = some (some (.agg #[(.string ⟨#[]⟩), (.bool false), (.int .i64 0), (.string ⟨#[]⟩)]), 4, 48) := by kernel_rfl
theorem rd_blk {w0 W : World} {g : Nat} {s : Rs} (h : IsRs w0 W g s) : ∃ cells, W.heap[g]? = some (.cells cells 153 (0, 0)) := by
 obtain ⟨_, A, c, hb, _⟩ := h; exact ⟨_, hb⟩
theorem R_block {α : Type} {d : Kd α} {T t : TypeId} {w w1 : World} {base g : Nat} {v : Value} {xs : List α} {cells : Array Value} (h : Kd.R d T w base (fun _ => True) v xs) (hE : d.E = []) (hb : w.heap[g]? = some (.cells cells t (0, 0))) (ht : T ≠ t) (hk : KeepBut w w1 g none) : Kd.R d T w1 base (fun _ => True) v xs :=
 Kd.R_mono (Kd.R_keep (Kd.R_types h hb (by rw [hE]; simp; exact ht)) hk (fun k hk => hk.2)) (fun _ _ => trivial)
theorem R_reader {α : Type} {d : Kd α} {T : TypeId} {w0 w w1 : World} {base g : Nat} {v : Value} {xs : List α} {s : Rs} (h : Kd.R d T w base (fun _ => True) v xs) (hE : d.E = []) (hI : IsRs w0 w g s) (ht : T ≠ 153) (hk : KeepBut w w1 g none) : Kd.R d T w1 base (fun _ => True) v xs := by
 obtain ⟨cells, hb⟩ := rd_blk hI; exact R_block h hE hb ht hk
theorem R_ne {α : Type} {d : Kd α} {T t : TypeId} {w : World} {base g : Nat} {v : Value} {xs : List α} {cells : Array Value} (h : Kd.R d T w base (fun _ => True) v xs) (hb : w.heap[g]? = some (.cells cells t (0, 0))) (ht : T ≠ t) : some g ≠ v.ownBlock := by
 obtain ⟨_, inner, ho, _⟩ := h; exact own_ne ho hb ht
theorem R_apart {α : Type} {d : Kd α} {T : TypeId} {w w1 : World} {base g : Nat} {v : Value} {xs : List α} (h : Kd.R d T w base (fun _ => True) v xs) (hE : d.E = []) (hne : some g ≠ v.ownBlock) (hk : KeepBut w w1 g none) : Kd.R d T w1 base (fun _ => True) v xs :=
 Kd.R_mono (Kd.R_keep (Kd.R_far1 h hE hne) hk (fun k hk => hk.2)) (fun _ _ => trivial)
theorem rd_ne {α : Type} {d : Kd α} {T : TypeId} {w0 w : World} {base g : Nat} {v : Value} {xs : List α} {s : Rs} (h : Kd.R d T w base (fun _ => True) v xs) (hI : IsRs w0 w g s) (ht : T ≠ 153) : some g ≠ v.ownBlock := by
 obtain ⟨cells, hb⟩ := rd_blk hI; exact R_ne h hb ht
theorem blk_grown {w w1 : World} {g : Nat} {row : Option Nat} {o : Obj} (h : w.heap[g]? = some o) (hg : w.grownBy w1 row) (hne : some g ≠ row) : w1.heap[g]? = some o := (hg.block g (blk_lt h) hne).trans h
theorem rd_set {w0 W : World} {g b j : Nat} {s : Rs} (h : IsRs w0 W g s) (hne : g ≠ b) (u : Value) : IsRs w0 (W.setCell ⟨b, j, none⟩ u) g s := IsRd.keep h ((KeepBut.refl W b none).set_ j u) hne
theorem rd_bound {s t : Rs} {x : Int} (h : rdB s = (x, t)) {w0 W : World} {g : Nat} (hI : IsRs w0 W g s) : 0 ≤ x ∧ x < 256 := by
 have := byte1_bd s.1 s.2 hI.1; rw [show byte1 s.1 s.2 = (x, t) from h] at this; exact this
theorem C_oneCo {w : World} {g : Nat} {t : TypeId} (x : Co) (h : w.heap[g]? = some (.cells #[.string x.1, .int .i64 x.2.1, .int .i64 x.2.2.1, .int .i64 x.2.2.2.1, .string x.2.2.2.2] t (0, 0))) : Kd.C kCo w (some ⟨g, 0, none⟩) 1 [x] := by
 refine ⟨rfl, by decide, fun _ => ⟨⟨g, 0, none⟩, rfl, fun i y hy => ?_⟩⟩
 obtain ⟨rfl, rfl⟩ : i = 0 ∧ y = x := by
  rcases i with _ | i
  ·exact ⟨rfl, (Option.some.inj hy).symm⟩
  ·simp at hy
 refine ⟨[.string y.1, .int .i64 y.2.1, .int .i64 y.2.2.1, .int .i64 y.2.2.2.1, .string y.2.2.2.2], rfl, rfl, fun j u hu => ?_⟩; rw [add_plain, blk_cell h _]
 simpa using hu
theorem put9 {W : World} {b : Nat} {t : TypeId} {z0 z1 z2 z3 z4 z5 z6 z7 z8 : Value} (h : W.heap[b]? = some (.cells #[z0, z1, z2, z3, z4, z5, z6, z7, z8] t (0, 0))) (u0 u1 u2 u3 u4 u5 u6 u7 u8 : Value) :
  KeepBut W (((((((((W.setCell ⟨b, 0, none⟩ (u0)).setCell ⟨b, 1, none⟩ (u1)).setCell ⟨b, 2, none⟩ (u2)).setCell ⟨b, 3, none⟩ (u3)).setCell ⟨b, 4, none⟩ (u4)).setCell ⟨b, 5, none⟩ (u5)).setCell ⟨b, 6, none⟩ (u6)).setCell ⟨b, 7, none⟩ (u7)).setCell ⟨b, 8, none⟩ (u8)) b none ∧ (((((((((W.setCell ⟨b, 0, none⟩ (u0)).setCell ⟨b, 1, none⟩ (u1)).setCell ⟨b, 2, none⟩ (u2)).setCell ⟨b, 3, none⟩ (u3)).setCell ⟨b, 4, none⟩ (u4)).setCell ⟨b, 5, none⟩ (u5)).setCell ⟨b, 6, none⟩ (u6)).setCell ⟨b, 7, none⟩ (u7)).setCell ⟨b, 8, none⟩ (u8)).heap[b]? = some (.cells #[u0, u1, u2, u3, u4, u5, u6, u7, u8] t (0, 0)) ∧ ∀ w0 : World, Below w0.heap.size w0 W → w0.heap.size ≤ b → Below w0.heap.size w0 (((((((((W.setCell ⟨b, 0, none⟩ (u0)).setCell ⟨b, 1, none⟩ (u1)).setCell ⟨b, 2, none⟩ (u2)).setCell ⟨b, 3, none⟩ (u3)).setCell ⟨b, 4, none⟩ (u4)).setCell ⟨b, 5, none⟩ (u5)).setCell ⟨b, 6, none⟩ (u6)).setCell ⟨b, 7, none⟩ (u7)).setCell ⟨b, 8, none⟩ (u8)) :=
 ⟨((((((((((KeepBut.refl W b none).set_ 0 u0).set_ 1 u1).set_ 2 u2).set_ 3 u3).set_ 4 u4).set_ 5 u5).set_ 6 u6).set_ 7 u7).set_ 8 u8), (blk_put (cs' := #[u0, u1, u2, u3, u4, u5, u6, u7, u8]) (blk_put (cs' := #[u0, u1, u2, u3, u4, u5, u6, u7, z8]) (blk_put (cs' := #[u0, u1, u2, u3, u4, u5, u6, z7, z8]) (blk_put (cs' := #[u0, u1, u2, u3, u4, u5, z6, z7, z8]) (blk_put (cs' := #[u0, u1, u2, u3, u4, z5, z6, z7, z8]) (blk_put (cs' := #[u0, u1, u2, u3, z4, z5, z6, z7, z8]) (blk_put (cs' := #[u0, u1, u2, z3, z4, z5, z6, z7, z8]) (blk_put (cs' := #[u0, u1, z2, z3, z4, z5, z6, z7, z8]) (blk_put (cs' := #[u0, z1, z2, z3, z4, z5, z6, z7, z8]) h 0 u0 rfl) 1 u1 rfl) 2 u2 rfl) 3 u3 rfl) 4 u4 rfl) 5 u5 rfl) 6 u6 rfl) 7 u7 rfl) 8 u8 rfl), fun w0 hB hb => (below_set (below_set (below_set (below_set (below_set (below_set (below_set (below_set (below_set hB hb) hb) hb) hb) hb) hb) hb) hb) hb)⟩
def Past (n : Nat) (A : Option Addr) : Prop := ∀ ad, A = some ad → n ≤ ad.block
theorem Past.none (n : Nat) : Past n none := fun _ e => by cases e
theorem Past.le {n m : Nat} {A : Option Addr} (h : Past n A) (hm : m ≤ n) : Past m A := fun ad e => Nat.le_trans hm (h ad e)
theorem past_of {α : Type} {d : Kd α} {T : TypeId} {w : World} {base n c : Nat} {A : Option Addr} {xs : List α} (h : Kd.R d T w base (fun _ => True) (.slice A n c) xs) : Past base A := by
 rintro ad rfl; exact Kd.R_base h _ rfl
theorem C_keepF {α : Type} {d : Kd α} (hK : ∀ W W' x cs, d.K W x cs → d.K W' x cs) {w w1 : World} {A : Option Addr} {n g : Nat} {xs : List α} (h : Kd.C d w A n xs) (hk : KeepBut w w1 g none) (hf : ∀ ad, A = some ad → ad.block ≠ g) : Kd.C d w1 A n xs :=
 ⟨h.1, h.2.1, fun hn => by
  obtain ⟨ad, e, hc⟩ := h.2.2 hn; refine ⟨ad, e, fun i x hx => ?_⟩; obtain ⟨cs, hl, hK', hcell⟩ := hc i x hx; exact ⟨cs, hl, hK _ _ _ _ hK', fun j u hu => keep_cell hk (hcell j u hu) (by rw [add_block]; exact hf ad e)⟩⟩
theorem Lies.keep {w w1 : World} {o : OpD} {A6 A7 A8 : Option Addr} {g n : Nat} (h : Lies w o A6 A7 A8) (hk : KeepBut w w1 g none) (h6 : Past n A6) (h7 : Past n A7) (h8 : Past n A8) (hg : g < n) : Lies w1 o A6 A7 A8 :=
 ⟨C_keepF (fun _ _ _ _ h => h) h.p hk (fun ad e => by have := h6 ad e; omega), C_keepF (fun _ _ _ _ h => h) h.s hk (fun ad e => by have := h7 ad e; omega), C_keepF (fun _ _ _ _ h => h) h.r hk (fun ad e => by have := h8 ad e; omega)⟩
end Go.Proofs.YtbplemhjhpfkgaaDoor.Cd
namespace Go.Proofs.YtbplemhjhpfkgaaDoor.Cd
open Go.RowKit YtbplemhjhpfkgaaDoorW.PrintWords YtbplemhjhpfkgaaDoorW.PrintLast YtbplemhjhpfkgaaDoorW.PrintMore Rd
open Go.Proofs.YtbplemhjhpfkgaaDoor.Ft (Door Chain new_chain kind_calls chain_iface)
set_option maxRecDepth 100000 in
set_option maxHeartbeats 4000000 in
theorem enc_right (o : OpD) (A6 : Option Addr) (m6 : Nat) (A7 : Option Addr) (m7 : Nat) (A8 : Option Addr) (m8 : Nat) (w : World) (h : Lies w o A6 A7 A8) (br : Byt o.r) (hr : rightD o = true) :
  Calls Tryd.prog 14 #[oW o A6 m6 A7 m7 A8 m8] w fun e w' => ∃ v, e = .returned (.tuple #[v, .nilIface]) ∧ Kd.R (Kd.int .u8) 5 w' w.heap.size (fun _ => True) v (opB o.k o.c o.q o.h o.a o.t o.p o.s o.r) ∧ Below w.heap.size w w' := by
 have HP : Hid (o.p.length ≤ 200 ∧ o.s.length ≤ 200) := Lib.hid (by
  simp only [rightD, Bool.and_eq_true, decide_eq_true_iff] at hr; omega)
 have HR := Lib.hid hr; have BR := sd br; have HL := sd h; clear h br hr; obtain ⟨k, c, q, hh, a, t, p, s, r⟩ := o; have HX := sd (blk_new w (.cells #[.int .i64 k, .int .i64 c, .int .i64 q, .int .i64 hh, .int .i64 a, .int .i64 t, .slice A6 p.length m6, .slice A7 s.length m7, .slice A8 r.length m8] 30)); have HB := sd (below_alloc (Below.refl w.heap.size w) (.cells #[.int .i64 k, .int .i64 c, .int .i64 q, .int .i64 hh, .int .i64 a, .int .i64 t, .slice A6 p.length m6, .slice A7 s.length m7, .slice A8 r.length m8] 30))
 go_enter Tryd.func14, Tryd.ntmps14
 go_wp2_with (first | (go_at_call 20; refine (right_calls ⟨k, c, q, hh, a, t, p, s, r⟩ _ _ _ _ _ _ _ (Lies.below HL.out HB.out) BR.out).mono ?_; rintro e w1 ⟨he, hB⟩; rw [HR.out] at he; subst he; replace HX := sd (blk_below HX.out hB); have q0 := (blk_cell HX.out 0); have q1 := (blk_cell HX.out 1); have q2 := (blk_cell HX.out 2); have q3 := (blk_cell HX.out 3); have q4 := (blk_cell HX.out 4); have q5 := (blk_cell HX.out 5); have q6 := (blk_cell HX.out 6); have q7 := (blk_cell HX.out 7); have q8 := (blk_cell HX.out 8); have hl1 := blk_lt HX.out; replace HB := sd (below_step HB.out hB); clear hB) | (go_at_call 45; refine (put_calls k c q hh a t _ _ p _ _ s _ _ r _ (Kd.C_below HL.out.p HB.out) (Kd.C_below HL.out.s HB.out) (Kd.C_below HL.out.r HB.out) (by have := HP.out.1; omega) (by have := HP.out.2; omega)).mono ?_; rintro e w2 ⟨v, rfl, hR, hB⟩; have HRR := sd (Kd.R_lower hR HB.out.size); replace HB := sd (below_step HB.out hB); clear hB hR)); go_ret2; exact ⟨v, rfl, HRR.out, HB.out⟩
set_option maxRecDepth 100000 in
set_option maxHeartbeats 4000000 in
theorem enc_wrong (o : OpD) (A6 : Option Addr) (m6 : Nat) (A7 : Option Addr) (m7 : Nat) (A8 : Option Addr) (m8 : Nat) (w : World) (h : Lies w o A6 A7 A8) (br : Byt o.r) (hr : rightD o = false) :
  Calls Tryd.prog 14 #[oW o A6 m6 A7 m7 A8 m8] w fun e w' => ∃ u, e = .returned (.tuple #[.slice none 0 0, u]) ∧ Chain w' [(⟨#[99, 111, 100, 101]⟩, 0)] 1 u ∧ Below w.heap.size w w' := by
 have HR := Lib.hid hr; have BR := sd br; have HL := sd h; clear h br hr; obtain ⟨k, c, q, hh, a, t, p, s, r⟩ := o; have HB := sd (below_alloc (Below.refl w.heap.size w) (.cells #[.int .i64 k, .int .i64 c, .int .i64 q, .int .i64 hh, .int .i64 a, .int .i64 t, .slice A6 p.length m6, .slice A7 s.length m7, .slice A8 r.length m8] 30))
 go_enter Tryd.func14, Tryd.ntmps14
 go_wp2_with (first | (go_at_call 20; refine (right_calls ⟨k, c, q, hh, a, t, p, s, r⟩ _ _ _ _ _ _ _ (Lies.below HL.out HB.out) BR.out).mono ?_; rintro e w1 ⟨he, hB⟩; rw [HR.out] at he; subst he; replace HB := sd (below_step HB.out hB); clear hB) | (go_at_call 44; refine (new_chain (fs := []) (c := 1) rfl).mono ?_; rintro e w2 ⟨u, rfl, hc, hB⟩; have HC := sd hc; replace HB := sd (below_step HB.out hB); clear hB hc)); go_ret2; exact ⟨u, rfl, HC.out, HB.out⟩

end Go.Proofs.YtbplemhjhpfkgaaDoor.Cd
namespace Go.Proofs.YtbplemhjhpfkgaaDoor.Wr
open Go.RowKit YtbplemhjhpfkgaaDoorW.PrintWords YtbplemhjhpfkgaaDoorW.PrintLast YtbplemhjhpfkgaaDoorW.PrintMore Rd
open PCodeKinds
open Go.Proofs.YtbplemhjhpfkgaaDoor.Cd (Co At kCo kAt)
theorem wr_id {n : Int} (h0 : -9223372036854775808 ≤ n) (h1 : n < 9223372036854775808) : wrap64 n = n := by
 unfold wrap64; omega
theorem within_some (a m : Int) (h0 : 0 ≤ m) (h1 : m ≤ 1000) : ∃ r, broadsidebook_Within.f a 0 m = some r ∧ 0 ≤ r ∧ r ≤ m := by
 have e1 : wrap64 (wrap64 (m - 0) + 1) = m + 1 := by rw [wr_id (n := m - 0) (by omega) (by omega), wr_id (by omega) (by omega)]; omega
 have b1 := Int.tmod_lt_of_pos a (show 0 < m + 1 by omega); have b2 := Int.lt_tmod_of_pos a (show 0 < m + 1 by omega); unfold broadsidebook_Within.f; rw [e1, if_neg (by omega)]; generalize Int.tmod a (m + 1) = t at b1 b2
 by_cases ht : t < 0
 ·rw [if_pos ht]; refine ⟨_, rfl, ?_⟩; rw [wr_id (n := t + m) (by omega) (by omega), wr_id (n := t + m - 0) (by omega) (by omega), wr_id (n := t + m - 0 + 1) (by omega) (by omega), wr_id (by omega) (by omega)]; omega
 ·rw [if_neg ht]; refine ⟨_, rfl, ?_⟩; rw [wr_id (by omega) (by omega)]; omega
theorem texts_some : ∃ l, broadsidekeep_texts.f = some l ∧ l.length = 7 := ⟨_, rfl, rfl⟩
theorem names_some : ∃ l, broadsidekeep_Names.f = some l ∧ l.length = 7 := ⟨_, rfl, rfl⟩
theorem pick_some (l : List Int) (i : Int) (h : 0 ≤ i) : ∃ r, broadsidekeep_pick.f l i = some r := by
 unfold broadsidekeep_pick.f
 split
 ·exact ⟨_, rfl⟩
 ·rename_i hn
  have hp : 0 < (l.length : Int) := by omega
  rw [if_pos (Int.tmod_nonneg _ h), if_pos (Int.tmod_lt_of_pos i hp)]; exact ⟨_, rfl⟩
theorem C_map {α β : Type} {d : Kd α} {e : Kd β} (f : α → β) (hs : d.sz = e.sz) (hk : ∀ W x cs, d.K W x cs → e.K W (f x) cs) {w : World} {A : Option Addr} {n : Nat} {xs : List α} (h : Kd.C d w A n xs) : Kd.C e w A n (xs.map f) := by
 refine ⟨by rw [List.length_map]; exact h.1, h.2.1, fun hn => ?_⟩; obtain ⟨ad, ea, hc⟩ := h.2.2 hn; refine ⟨ad, ea, fun i x hx => ?_⟩; rw [List.getElem?_map] at hx; obtain ⟨y, hy, rfl⟩ := Option.map_eq_some_iff.1 hx; obtain ⟨c, h1, h2, h3⟩ := hc i y hy; exact ⟨c, by rw [← hs]; exact h1, hk _ _ _ h2, by rw [← hs]; exact h3⟩
def toCo (x : S44) : Co := (x.f0, x.f1, x.f2, x.f3, x.f4)
def toAt (x : S59) : At := (x.f0, x.f1.f0, x.f1.f1, x.f1.f2)
theorem C_Co {w : World} {A : Option Addr} {n : Nat} {xs : List S44} (h : Kd.C k44 w A n xs) : Kd.C kCo w A n (xs.map toCo) := C_map toCo rfl (fun W x cs h => k44_open h) h
theorem C_At {w : World} {A : Option Addr} {n : Nat} {xs : List S59} (h : Kd.C k59 w A n xs) : Kd.C kAt w A n (xs.map toAt) := C_map toAt rfl (fun W x cs h => k59_open h) h
end Go.Proofs.YtbplemhjhpfkgaaDoor.Wr
namespace Go.Proofs.YtbplemhjhpfkgaaDoor.Wr
open Go.RowKit YtbplemhjhpfkgaaDoorW.PrintWords YtbplemhjhpfkgaaDoorW.PrintLast YtbplemhjhpfkgaaDoorW.PrintMore Rd
open PCodeKinds
open Go.Proofs.YtbplemhjhpfkgaaDoor.Cd (Co At kCo kAt at_Co at_At nilCo nilAt)
def InI64 (n : Int) : Prop := -9223372036854775808 ≤ n ∧ n ≤ 9223372036854775807
theorem i64_0 : InI64 0 := ⟨by decide, by decide⟩
structure WfM (m : MsgD) : Prop where
 ts : InI64 m.ts
 is : InI64 m.is
 p : ∀ x ∈ m.p, InI64 x.2.2.1 ∧ InI64 x.2.2.2.1
 s : ∀ x ∈ m.s, InI64 x.2.2.1
theorem within_one (a m : Int) (h0 : 1 ≤ m) (h1 : m ≤ 1000) : ∃ r, broadsidebook_Within.f a 1 m = some r ∧ 1 ≤ r ∧ r ≤ m := by
 have e1 : wrap64 (wrap64 (m - 1) + 1) = m := by rw [wr_id (n := m - 1) (by omega) (by omega), wr_id (by omega) (by omega)]; omega
 have b1 := Int.tmod_lt_of_pos a (show 0 < m by omega); have b2 := Int.lt_tmod_of_pos a (show 0 < m by omega); unfold broadsidebook_Within.f; rw [e1, if_neg (by omega)]; generalize Int.tmod a m = t at b1 b2
 by_cases ht : t < 0
 ·rw [if_pos ht]; refine ⟨_, rfl, ?_⟩; rw [wr_id (n := t + m) (by omega) (by omega), wr_id (n := t + m - 1) (by omega) (by omega), wr_id (n := t + m - 1 + 1) (by omega) (by omega), wr_id (by omega) (by omega)]; omega
 ·rw [if_neg ht]; refine ⟨_, rfl, ?_⟩; rw [wr_id (by omega) (by omega)]; omega
theorem getC_left {L : List Co} {y : Co} {i : Nat} (h : i < L.length) : getC (L ++ [y]) i = getC L i := by
 unfold getC; rw [List.getD_eq_getElem?_getD, List.getD_eq_getElem?_getD, List.getElem?_append_left h]
theorem getC_last (L : List Co) (y : Co) : getC (L ++ [y]) L.length = y := getC_of (by simp)
theorem getA_left {L : List At} {y : At} {i : Nat} (h : i < L.length) : getA (L ++ [y]) i = getA L i := by
 unfold getA; rw [List.getD_eq_getElem?_getD, List.getD_eq_getElem?_getD, List.getElem?_append_left h]
theorem getA_last (L : List At) (y : At) : getA (L ++ [y]) L.length = y := getA_of (by simp)
theorem getC_mem {L : List Co} {i : Nat} (h : i < L.length) : getC L i ∈ L := by
 rw [getC_of (List.getElem?_eq_getElem h)]; exact List.getElem_mem h
theorem getA_mem {L : List At} {i : Nat} (h : i < L.length) : getA L i ∈ L := by
 rw [getA_of (List.getElem?_eq_getElem h)]; exact List.getElem_mem h
theorem all_congr {f g : Nat → Bool} {n : Nat} (h : ∀ i, i < n → f i = g i) : (List.range n).all f = (List.range n).all g := by
 rw [Bool.eq_iff_iff, List.all_eq_true, List.all_eq_true]; exact ⟨fun ha i hi => by rw [← h i (List.mem_range.1 hi)]; exact ha i hi, fun ha i hi => by rw [h i (List.mem_range.1 hi)]; exact ha i hi⟩
theorem stepC_left {L : List Co} {y : Co} {i : Nat} (h : i < L.length) : stepC (L ++ [y]) i = stepC L i := by
 unfold stepC; rw [getC_left h, getC_left (i := i - 1) (by omega)]
theorem stepA_left {L : List At} {y : At} {i : Nat} (h : i < L.length) : stepA (L ++ [y]) i = stepA L i := by
 unfold stepA; rw [getA_left h, getA_left (i := i - 1) (by omega)]
theorem stepC_snoc {L : List Co} {y : Co} (h : (List.range L.length).all (stepC L) = true) (hy : oneOk y = true) (hl : ∀ x ∈ L, Op.bytesLess x.1.toList y.1.toList = true) : (List.range (L ++ [y]).length).all (stepC (L ++ [y])) = true := by
 rw [List.length_append, List.length_singleton]; refine range_snoc ?_ ?_
 ·rw [all_congr (g := stepC L) (fun i hi => stepC_left hi)]; exact h
 ·unfold stepC; rw [getC_last, hy]
  by_cases h0 : L.length = 0
  ·simp [h0]
  ·rw [getC_left (i := L.length - 1) (by omega), hl _ (getC_mem (by omega))]
   simp
theorem stepA_snoc {L : List At} {y : At} (h : (List.range L.length).all (stepA L) = true) (hy : (nameOk y.1 && valOk y.2.1 y.2.2.1 y.2.2.2) = true) (hl : ∀ x ∈ L, Op.bytesLess x.1.toList y.1.toList = true) : (List.range (L ++ [y]).length).all (stepA (L ++ [y])) = true := by
 rw [List.length_append, List.length_singleton]; refine range_snoc ?_ ?_
 ·rw [all_congr (g := stepA L) (fun i hi => stepA_left hi)]; exact h
 ·unfold stepA; rw [getA_last, hy]
  by_cases h0 : L.length = 0
  ·simp [h0]
  ·rw [getA_left (i := L.length - 1) (by omega), hl _ (getA_mem (by omega))]
   simp
def nmI (i : Nat) : ByteArray := ⟨#[(97 + i).toUInt8]⟩
theorem nmI_at (T : List ByteArray) (hT : broadsidekeep_Names.f = some T) (i : Nat) (h : i < 7) : rdOf ByteArray.empty T (i : Int) = nmI i := by
 obtain rfl := Option.some.inj hT; rcases i with _ | _ | _ | _ | _ | _ | _ | i
 all_goals first | rfl | omega
theorem nmI_ok (i : Nat) (h : i < 7) : nameOk (nmI i) = true := by
 rcases i with _ | _ | _ | _ | _ | _ | _ | i
 all_goals first | (exfalso; omega) | kernel_rfl
theorem nmI_sm (i : Nat) : Sm (nmI i) := by
 show (1 : Nat) ≤ 9223372036854775807
 decide
theorem nmI_less (i j : Nat) (h : i < j) (h7 : j < 7) : Op.bytesLess (nmI i).toList (nmI j).toList = true := by
 rcases i with _ | _ | _ | _ | _ | _ | i
 all_goals rcases j with _ | _ | _ | _ | _ | _ | _ | j
 all_goals first | (exfalso; omega) | kernel_rfl
theorem texts_le3 (t : Int) : ∀ l : List ByteArray, broadsidekeep_texts.f = some l → (rdOf ByteArray.empty l t).size ≤ 3 := by
 intro l hl; obtain rfl := Option.some.inj hl; unfold rdOf; generalize t.toNat = n; rcases n with _ | _ | _ | _ | _ | _ | _ | n
 all_goals (first | decide | (simp))
theorem one_some (k : Nat) (nm : ByteArray) (n : Int) (hn : nameOk nm = true) : ∃ r, broadsidekeep_Constraint.f (k + 1) nm n = some r ∧ r.1 = nm ∧ oneOk r = true ∧ InI64 r.2.2.1 ∧ InI64 r.2.2.2.1 := by
 obtain ⟨t, ht, h0, h3⟩ := within_some n 3 (by omega) (by omega); obtain ⟨l, hl, hll⟩ := texts_some
 have key : ∀ b, ∃ r, broadsidekeep_Constraint.j0 (k + 1) n t b nm 0 0 0 ⟨#[]⟩ = some r ∧ r.1 = nm ∧ oneOk r = true ∧ InI64 r.2.2.1 ∧ InI64 r.2.2.2.1 := by
  intro b; simp only [broadsidekeep_Constraint.j0]; obtain ⟨t1, e1, a1, b1⟩ := within_some (wrap64 (Int.tdiv n 4)) 9 (by omega) (by omega); obtain ⟨t2, e2, a2, b2⟩ := within_some (wrap64 (Int.tdiv n 40)) 9 (by omega) (by omega); obtain ⟨t3, e3, a3, b3⟩ := within_some (wrap64 (Int.tdiv n 4)) 6 (by omega) (by omega); rw [e1, e2, e3, hl]; simp only [Option.bind_some]; have g1 : t3 < (l.length : Int) := by omega
  have g3 := texts_le3 t3 l hl
  split
  ·have hw : wrap64 (t1 + t2) = t1 + t2 := wr_id (by omega) (by omega); refine ⟨_, rfl, rfl, ?_, ⟨by show -9223372036854775808 ≤ t1; omega, by show t1 ≤ 9223372036854775807; omega⟩, ⟨by show -9223372036854775808 ≤ wrap64 (t1 + t2); omega, by show wrap64 (t1 + t2) ≤ 9223372036854775807; omega⟩⟩; have he : (⟨#[]⟩ : ByteArray).toList.isEmpty = true := by kernel_rfl
   simp only [oneOk, hn, hw, he]
   simp
   omega
  ·split
   ·refine ⟨_, rfl, rfl, ?_, i64_0, i64_0⟩; simp only [oneOk, hn]
    simp
    omega
   ·refine ⟨_, rfl, rfl, ?_, i64_0, i64_0⟩; simp only [oneOk, hn]
    simp
    omega
 unfold broadsidekeep_Constraint.f; rw [ht]; simp only [Option.bind_some]
 split
 ·exact key _
 ·exact key _
theorem val_some (n : Int) : ∃ r, broadsidekeep_Value.f n = some r ∧ valOk r.1 r.2.1 r.2.2 = true ∧ InI64 r.2.1 := by
 obtain ⟨t1, e1, a1, b1⟩ := within_some (wrap64 (Int.tdiv n 2)) 9 (by omega) (by omega); obtain ⟨t3, e3, a3, b3⟩ := within_some (wrap64 (Int.tdiv n 2)) 6 (by omega) (by omega); obtain ⟨l, hl, hll⟩ := texts_some; unfold broadsidekeep_Value.f; rw [e1, e3, hl]; simp only [Option.bind_some]; have g1 : t3 < (l.length : Int) := by omega
 have g3 := texts_le3 t3 l hl
 split
 ·exact ⟨_, rfl, by kernel_rfl, ⟨by show -9223372036854775808 ≤ t1; omega, by show t1 ≤ 9223372036854775807; omega⟩⟩
 ·refine ⟨_, rfl, ?_, i64_0⟩; simp only [valOk]
  simp
  omega
structure UpC (L : List Co) (x : Int) : Prop where
 a : (List.range L.length).all (stepC L) = true
 w : ∀ y ∈ L, InI64 y.2.2.1 ∧ InI64 y.2.2.2.1
 n : ∀ y ∈ L, ∃ i : Nat, (i : Int) < x ∧ y.1 = nmI i
structure UpA (L : List At) (x : Int) : Prop where
 a : (List.range L.length).all (stepA L) = true
 w : ∀ y ∈ L, InI64 y.2.2.1
 n : ∀ y ∈ L, ∃ i : Nat, (i : Int) < x ∧ y.1 = nmI i
theorem predR (l0 l1 : List Int) (T : List ByteArray) (hT : broadsidekeep_Names.f = some T) : ∀ (d : Nat) (x8 : Int) (acc : List S44), d ≤ 7 → x8 = 7 - d → acc.length ≤ 5 → UpC (acc.map toCo) x8 → ∃ r, broadsidekeep_Pred_Pred.l0 (2 * d + 1) acc T 7 x8 l0 l1 = some r ∧ r.length ≤ 5 ∧ UpC (r.map toCo) 7 := by
 have hlen : T.length = 7 := by obtain rfl := Option.some.inj hT; rfl
 intro d
 induction d with
 | zero =>
  intro x8 acc hd hx ha hk; obtain rfl : x8 = 7 := by omega
  unfold broadsidekeep_Pred_Pred.l0; rw [if_neg (by omega)]; exact ⟨_, rfl, ha, hk⟩
 | succ d ih =>
  intro x8 acc hd hx ha hk; obtain ⟨i8, rfl⟩ : ∃ i : Nat, x8 = i := ⟨x8.toNat, by omega⟩; have hw : wrap64 ((i8 : Int) + 1) = (i8 : Int) + 1 := wr_id (by omega) (by omega); have hk1 : UpC (acc.map toCo) ((i8 : Int) + 1) := ⟨hk.a, hk.w, fun y hy => by obtain ⟨i, h1, h2⟩ := hk.n y hy; exact ⟨i, by omega, h2⟩⟩
  have key : ∀ b, (b = true → acc.length < 5) → ∃ r, broadsidekeep_Pred_Pred.j1 (2 * d + 2) acc i8 (rdOf ByteArray.empty T i8) T 7 i8 b l0 l1 = some r ∧ r.length ≤ 5 ∧ UpC (r.map toCo) 7 := by
   intro b hb; unfold broadsidekeep_Pred_Pred.j1; rw [hw, nmI_at T hT i8 (by omega)]
   split
   ·rename_i hbt
    obtain ⟨p, hp⟩ := pick_some l1 i8 (by omega); obtain ⟨c, hc, hn, hck, hcw⟩ := one_some (2 * d) (nmI i8) p (nmI_ok i8 (by omega)); rw [hp]; simp only [Option.bind_some]; rw [hc]; simp only [Option.bind_some]; have h5 := hb hbt; rw [if_pos (by omega)]; refine ih ((i8 : Int) + 1) _ (by omega) (by omega) (by simp; omega) ?_; rw [List.map_append]; refine ⟨stepC_snoc hk.a hck (fun x hx => ?_), fun y hy => (List.mem_append.1 hy).elim (hk.w y) (fun h => by rw [List.mem_singleton.1 h]; exact hcw), fun y hy => ?_⟩
    ·obtain ⟨i, h1, h2⟩ := hk.n x hx; rw [h2]
     show Op.bytesLess _ c.1.toList = true
     rw [hn]; exact nmI_less i i8 (by omega) (by omega)
    ·rcases List.mem_append.1 hy with hy | hy
     ·exact hk1.n y hy
     ·obtain rfl := List.mem_singleton.1 hy; exact ⟨i8, by omega, hn⟩
   ·exact ih ((i8 : Int) + 1) _ (by omega) (by omega) ha hk1
  rw [show 2 * (d + 1) + 1 = (2 * d + 2) + 1 by omega]; unfold broadsidekeep_Pred_Pred.l0; rw [if_pos (by omega), if_pos (by omega), if_pos (by omega)]
  split
  ·split
   ·exact key _ (by intro h; have := of_decide_eq_true h; omega)
   ·exact key _ (by intro h; cases h)
  ·exact key _ (by intro h; cases h)
theorem tupR (l0 l1 : List Int) (T : List ByteArray) (hT : broadsidekeep_Names.f = some T) : ∀ (d : Nat) (x8 : Int) (acc : List S59), d ≤ 7 → x8 = 7 - d → acc.length ≤ 5 → UpA (acc.map toAt) x8 → ∃ r, broadsidekeep_Tuple_Tuple.l0 (2 * d + 1) acc T 7 x8 l0 l1 = some r ∧ r.length ≤ 5 ∧ UpA (r.map toAt) 7 := by
 have hlen : T.length = 7 := by obtain rfl := Option.some.inj hT; rfl
 intro d
 induction d with
 | zero =>
  intro x8 acc hd hx ha hk; obtain rfl : x8 = 7 := by omega
  unfold broadsidekeep_Tuple_Tuple.l0; rw [if_neg (by omega)]; exact ⟨_, rfl, ha, hk⟩
 | succ d ih =>
  intro x8 acc hd hx ha hk; obtain ⟨i8, rfl⟩ : ∃ i : Nat, x8 = i := ⟨x8.toNat, by omega⟩; have hw : wrap64 ((i8 : Int) + 1) = (i8 : Int) + 1 := wr_id (by omega) (by omega); have hk1 : UpA (acc.map toAt) ((i8 : Int) + 1) := ⟨hk.a, hk.w, fun y hy => by obtain ⟨i, h1, h2⟩ := hk.n y hy; exact ⟨i, by omega, h2⟩⟩
  have key : ∀ b, (b = true → acc.length < 5) → ∃ r, broadsidekeep_Tuple_Tuple.j1 (2 * d + 2) acc i8 (rdOf ByteArray.empty T i8) T 7 i8 b l0 l1 = some r ∧ r.length ≤ 5 ∧ UpA (r.map toAt) 7 := by
   intro b hb; unfold broadsidekeep_Tuple_Tuple.j1; rw [hw, nmI_at T hT i8 (by omega)]
   split
   ·rename_i hbt
    obtain ⟨p, hp⟩ := pick_some l1 i8 (by omega); obtain ⟨c, hc, hck, hcw⟩ := val_some p; rw [hp]; simp only [Option.bind_some]; rw [hc]; simp only [Option.bind_some]; have h5 := hb hbt; rw [if_pos (by omega)]; refine ih ((i8 : Int) + 1) _ (by omega) (by omega) (by simp; omega) ?_; rw [List.map_append]; refine ⟨stepA_snoc hk.a (by show (nameOk (nmI i8) && valOk c.1 c.2.1 c.2.2) = true; rw [nmI_ok i8 (by omega), hck]; rfl) (fun x hx => ?_), fun y hy => (List.mem_append.1 hy).elim (hk.w y) (fun h => by rw [List.mem_singleton.1 h]; exact hcw), fun y hy => ?_⟩
    ·obtain ⟨i, h1, h2⟩ := hk.n x hx; rw [h2]; exact nmI_less i i8 (by omega) (by omega)
    ·rcases List.mem_append.1 hy with hy | hy
     ·exact hk1.n y hy
     ·obtain rfl := List.mem_singleton.1 hy; exact ⟨i8, by omega, rfl⟩
   ·exact ih ((i8 : Int) + 1) _ (by omega) (by omega) ha hk1
  rw [show 2 * (d + 1) + 1 = (2 * d + 2) + 1 by omega]; unfold broadsidekeep_Tuple_Tuple.l0; rw [if_pos (by omega), if_pos (by omega), if_pos (by omega)]
  split
  ·split
   ·exact key _ (by intro h; have := of_decide_eq_true h; omega)
   ·exact key _ (by intro h; cases h)
  ·exact key _ (by intro h; cases h)
theorem pred15 (l0 l1 : List Int) : ∃ r, broadsidekeep_Pred_Pred.f 15 l0 l1 = some r ∧ predOk (r.map toCo) = true ∧ (∀ y ∈ r.map toCo, Sm y.1) ∧ ∀ y ∈ r.map toCo, InI64 y.2.2.1 ∧ InI64 y.2.2.2.1 := by
 obtain ⟨T, hT, hl⟩ := names_some; obtain ⟨r, h1, h2, h3⟩ := predR l0 l1 T hT 7 0 [] (by omega) (by omega) (by simp) ⟨rfl, fun y hy => (by cases hy), fun y hy => (by cases hy)⟩; refine ⟨r, ?_, ?_, fun y hy => (by obtain ⟨i, _, e⟩ := h3.n y hy; rw [e]; exact nmI_sm i), h3.w⟩
 ·unfold broadsidekeep_Pred_Pred.f; rw [hT]; simp only [Option.bind_some]; rw [hl]; exact h1
 ·unfold predOk; rw [h3.a, List.length_map]
  simp
  omega
theorem tup15 (l0 l1 : List Int) : ∃ r, broadsidekeep_Tuple_Tuple.f 15 l0 l1 = some r ∧ tupOk (r.map toAt) = true ∧ (∀ y ∈ r.map toAt, Sm y.1) ∧ ∀ y ∈ r.map toAt, InI64 y.2.2.1 := by
 obtain ⟨T, hT, hl⟩ := names_some; obtain ⟨r, h1, h2, h3⟩ := tupR l0 l1 T hT 7 0 [] (by omega) (by omega) (by simp) ⟨rfl, fun y hy => (by cases hy), fun y hy => (by cases hy)⟩; refine ⟨r, ?_, ?_, fun y hy => (by obtain ⟨i, _, e⟩ := h3.n y hy; rw [e]; exact nmI_sm i), h3.w⟩
 ·unfold broadsidekeep_Tuple_Tuple.f; rw [hT]; simp only [Option.bind_some]; rw [hl]; exact h1
 ·unfold tupOk; rw [h3.a, List.length_map]
  simp
  omega
def msgOf (k tc ts ic is : Int) (p : List S44) (s : List S59) : MsgD := ⟨k, tc, ts, ic, is, p.map toCo, s.map toAt⟩
theorem idOk4 {a b : Int} (h0 : 0 ≤ a) (h1 : a ≤ 4) (h2 : 0 ≤ b) : idOk a b = true := by
 unfold idOk
 simp
 omega
theorem msg_some (a0 a1 a2 a3 a4 : Int) (l5 l6 l7 l8 : List Int) : ∃ r : Int × Int × Int × Int × Int × (List S44) × (List S59), broadsidekeep_Message_Message.f 17 a0 a1 a2 a3 a4 l5 l6 l7 l8 = some r ∧ rightM (msgOf r.1 r.2.1 r.2.2.1 r.2.2.2.1 r.2.2.2.2.1 r.2.2.2.2.2.1 r.2.2.2.2.2.2) = true ∧ SmM (msgOf r.1 r.2.1 r.2.2.1 r.2.2.2.1 r.2.2.2.2.1 r.2.2.2.2.2.1 r.2.2.2.2.2.2) ∧ WfM (msgOf r.1 r.2.1 r.2.2.1 r.2.2.2.1 r.2.2.2.2.1 r.2.2.2.2.2.1 r.2.2.2.2.2.2) := by
 obtain ⟨k, ek, k0, k1⟩ := within_one a0 5 (by omega) (by omega); obtain ⟨c, ec, c0, c1⟩ := within_some a1 4 (by omega) (by omega); obtain ⟨s, es, s0, s1⟩ := within_some a2 4 (by omega) (by omega); obtain ⟨o, eo, o0, o1⟩ := within_some a3 4 (by omega) (by omega); obtain ⟨n, en, n0, n1⟩ := within_some a4 4 (by omega) (by omega); obtain ⟨p, ep, p0, p1, p2⟩ := pred15 l5 l6; obtain ⟨t, et, t0, t1, t2⟩ := tup15 l7 l8; unfold broadsidekeep_Message_Message.f; rw [ek, ec, es, eo, en]; simp only [Option.bind_some, broadsidekeep_Message_Message.j0, broadsidekeep_Message_Message.j1]; have z1 : idOk c s = true := idOk4 c0 c1 s0; have z2 : idOk o n = true := idOk4 o0 o1 n0; have z3 : idOk 0 0 = true := by decide
 have z4 : predOk [] = true := rfl; have z5 : tupOk [] = true := rfl; obtain rfl | rfl | rfl | rfl | rfl : k = 1 ∨ k = 2 ∨ k = 3 ∨ k = 4 ∨ k = 5 := by omega
 ·simp only [ep, Option.bind_some]; refine ⟨_, rfl, ?_, ⟨p1, fun y hy => (by cases hy)⟩, ⟨⟨by show -9223372036854775808 ≤ s; omega, by show s ≤ 9223372036854775807; omega⟩, i64_0, p2, fun y hy => (by cases hy)⟩⟩
  simp [rightM, msgOf, kindOk, asksI, asksP, asksS, z1, z3, z5, p0]
 ·refine ⟨_, rfl, ?_, ⟨fun y hy => (by cases hy), fun y hy => (by cases hy)⟩, ⟨⟨by show -9223372036854775808 ≤ s; omega, by show s ≤ 9223372036854775807; omega⟩, i64_0, fun y hy => (by cases hy), fun y hy => (by cases hy)⟩⟩
  simp [rightM, msgOf, kindOk, asksI, asksP, asksS, z1, z3, z4, z5]
 ·simp only [ep, Option.bind_some]; refine ⟨_, rfl, ?_, ⟨p1, fun y hy => (by cases hy)⟩, ⟨⟨by show -9223372036854775808 ≤ s; omega, by show s ≤ 9223372036854775807; omega⟩, ⟨by show -9223372036854775808 ≤ n; omega, by show n ≤ 9223372036854775807; omega⟩, p2, fun y hy => (by cases hy)⟩⟩
  simp [rightM, msgOf, kindOk, asksI, asksP, asksS, z1, z2, z5, p0]
 ·refine ⟨_, rfl, ?_, ⟨fun y hy => (by cases hy), fun y hy => (by cases hy)⟩, ⟨⟨by show -9223372036854775808 ≤ s; omega, by show s ≤ 9223372036854775807; omega⟩, ⟨by show -9223372036854775808 ≤ n; omega, by show n ≤ 9223372036854775807; omega⟩, fun y hy => (by cases hy), fun y hy => (by cases hy)⟩⟩
  simp [rightM, msgOf, kindOk, asksI, asksP, asksS, z1, z2, z4, z5]
 ·simp only [et, Option.bind_some]; refine ⟨_, rfl, ?_, ⟨fun y hy => (by cases hy), t1⟩, ⟨⟨by show -9223372036854775808 ≤ s; omega, by show s ≤ 9223372036854775807; omega⟩, ⟨by show -9223372036854775808 ≤ n; omega, by show n ≤ 9223372036854775807; omega⟩, fun y hy => (by cases hy), t2⟩⟩
  simp [rightM, msgOf, kindOk, asksI, asksP, asksS, z1, z2, z4, t0]
theorem msg_calls (a0 a1 a2 a3 a4 : Int) (A5 : Option Addr) (c5 : Nat) (l5 : List Int) (A6 : Option Addr) (c6 : Nat) (l6 : List Int) (A7 : Option Addr) (c7 : Nat) (l7 : List Int) (A8 : Option Addr) (c8 : Nat) (l8 : List Int) (w : World)
  (h5 : Kd.C (Kd.int .i64) w A5 l5.length l5) (k5 : l5.length ≤ c5) (h6 : Kd.C (Kd.int .i64) w A6 l6.length l6) (k6 : l6.length ≤ c6) (h7 : Kd.C (Kd.int .i64) w A7 l7.length l7) (k7 : l7.length ≤ c7) (h8 : Kd.C (Kd.int .i64) w A8 l8.length l8) (k8 : l8.length ≤ c8) :
  Calls Tryd.prog 23 #[.agg #[.int .i64 a0, .int .i64 a1, .int .i64 a2, .int .i64 a3, .int .i64 a4, .slice A5 l5.length c5, .slice A6 l6.length c6, .slice A7 l7.length c7, .slice A8 l8.length c8]] w fun e w' => ∃ (m : MsgD) (D5 : Option Addr) (m5 : Nat) (D6 : Option Addr) (m6 : Nat), e = .returned (mW m D5 m5 D6 m6) ∧ LiesM w' m D5 D6 ∧ m.p.length ≤ m5 ∧ m.s.length ≤ m6 ∧ rightM m = true ∧ SmM m ∧ WfM m ∧ (∀ ad, D5 = some ad → w.heap.size ≤ ad.block) ∧ (∀ ad, D6 = some ad → w.heap.size ≤ ad.block) ∧ Below w.heap.size w w' := by
 obtain ⟨⟨r1, r2, r3, r4, r5, r6, r7⟩, hf, hr, hs, hwf⟩ := msg_some a0 a1 a2 a3 a4 l5 l6 l7 l8; refine (broadsidekeep_Message_Message.calls 17 a0 a1 a2 a3 a4 A5 c5 l5 A6 c6 l6 A7 c7 l7 A8 c8 l8 r1 r2 r3 r4 r5 r6 r7 w h5 k5 h6 k6 h7 k7 h8 k8 hf).mono ?_; rintro e w' ⟨v5, v6, rfl, hR5, hR6, hb⟩; obtain ⟨D5, m5, rfl, hm5, hC5⟩ := Kd.R_reads hR5; obtain ⟨D6, m6, rfl, hm6, hC6⟩ := Kd.R_reads hR6; refine ⟨msgOf r1 r2 r3 r4 r5 r6 r7, D5, m5, D6, m6, by simp [mW, msgOf], ⟨?_, ?_⟩, by simpa [msgOf] using hm5, by simpa [msgOf] using hm6, hr, hs, hwf, fun ad he => by subst he; exact Kd.R_base hR5 _ rfl, fun ad he => by subst he; exact Kd.R_base hR6 _ rfl, hb⟩
 ·show Kd.C kCo w' D5 (r6.map toCo).length (r6.map toCo)
  rw [List.length_map]; exact C_Co hC5
 ·show Kd.C kAt w' D6 (r7.map toAt).length (r7.map toAt)
  rw [List.length_map]; exact C_At hC6
end Go.Proofs.YtbplemhjhpfkgaaDoor.Wr
namespace Go.Proofs.YtbplemhjhpfkgaaDoor.Wr
open Go.RowKit YtbplemhjhpfkgaaDoorW.PrintWords YtbplemhjhpfkgaaDoorW.PrintLast YtbplemhjhpfkgaaDoorW.PrintMore Rd
open Go.Proofs.YtbplemhjhpfkgaaDoor.Cd (Co At kCo kAt at_Co at_At nilCo nilAt)
theorem empty_of {s : ByteArray} (h : s.toList.isEmpty = true) : s = ⟨#[]⟩ := by
 have h1 : s.toList = [] := List.isEmpty_iff.1 h; rw [ByteArray.toList_eq] at h1; apply ByteArray.ext; exact Array.toList_inj.1 h1
theorem name_size {s : ByteArray} (h : nameOk s = true) : s.size ≤ 12 := by
 unfold nameOk at h; simp only [Bool.and_eq_true, decide_eq_true_iff] at h; omega
theorem pred_each {l : List Co} (h : predOk l = true) : ∀ x ∈ l, oneOk x = true := by
 intro x hx; obtain ⟨i, hi⟩ := List.getElem?_of_mem hx; have hl := (List.getElem?_eq_some_iff.1 hi).1; unfold predOk at h; rw [Bool.and_eq_true, List.all_eq_true] at h; have := h.1 i (List.mem_range.2 hl); unfold stepC at this; rw [getC_of hi, Bool.and_eq_true] at this; exact this.1
theorem tup_each {l : List At} (h : tupOk l = true) : ∀ x ∈ l, (nameOk x.1 && valOk x.2.1 x.2.2.1 x.2.2.2) = true := by
 intro x hx; obtain ⟨i, hi⟩ := List.getElem?_of_mem hx; have hl := (List.getElem?_eq_some_iff.1 hi).1; unfold tupOk at h; rw [Bool.and_eq_true, List.all_eq_true] at h; have := h.1 i (List.mem_range.2 hl); unfold stepA at this; rw [getA_of hi, Bool.and_eq_true] at this; exact this.1
structure IsRight (m : MsgD) : Prop where
 k : 1 ≤ m.k ∧ m.k ≤ 5
 t : 0 ≤ m.tc ∧ m.tc < 32 ∧ 0 ≤ m.ts
 p : predOk m.p = true
 s : tupOk m.s = true
 i : asksI m.k = false → m.ic = 0 ∧ m.is = 0
 q : asksP m.k = false → m.p = []
 r : asksS m.k = false → m.s = []
 o : 0 ≤ m.ic ∧ m.ic < 32 ∧ 0 ≤ m.is
theorem isRight {m : MsgD} (h : rightM m = true) : IsRight m := by
 unfold rightM idOk kindOk at h; simp only [Bool.and_eq_true, Bool.or_eq_true, decide_eq_true_iff] at h; obtain ⟨hk, ht, hp, hs, hi, hq, hr, ho⟩ := h; exact ⟨hk, ht, hp, hs, fun e => hi.resolve_left (by rw [e]; decide), fun e => hq.resolve_left (by rw [e]; decide), fun e => hr.resolve_left (by rw [e]; decide), ho⟩
end Go.Proofs.YtbplemhjhpfkgaaDoor.Wr
namespace Go.Proofs.YtbplemhjhpfkgaaDoor.Wr
open Go.ChangeShapes Go.WideShapes Go.RowKit YtbplemhjhpfkgaaDoorW.PrintWords YtbplemhjhpfkgaaDoorW.PrintLast YtbplemhjhpfkgaaDoorW.PrintMore Rd
open Go.Proofs.YtbplemhjhpfkgaaDoor.Cd (Co At kCo kAt at_Co at_At nilCo nilAt flat)
set_option maxRecDepth 100000
section
variable {H : Type} {enc : TypeId × Value → H} {w : World} {base : Nat} {spare : Nat → Bool} {held : Bool}
theorem open_flatM {α : Type} {en : α → List Value} {sz : Nat} {hl : ∀ x, (en x).length = sz} {h1 : ∀ x u, u ∈ en x → u.oneCell' = true} {Q : α → Prop} {t e : TypeId} {fuel : Nat} {cs : List Value} {x : DataW H × List MemPlace}
  (ht : Tryd.prog.underlying t = some (.slice e)) (hce : Tryd.prog.cellsOf e = sz) (hE : ∀ fuel cs x, DataW.trod enc Tryd.prog w base spare held fuel e cs = some x → ∃ y, cs = en y ∧ Q y) (h : DataW.trod enc Tryd.prog w base spare held fuel t cs = some x) :
  ∃ (A : Option Addr) (c : Nat) (xs : List α), cs = [.slice A xs.length c] ∧ xs.length ≤ c ∧ c ≤ maxLen ∧ Kd.C (flat sz en hl h1) w A xs.length xs ∧ ∀ y ∈ xs, Q y := by
 rcases Go.Deep.open_slice ht h with ⟨rfl, _⟩ | ⟨a, len, cap, m, n, D, Pl, rfl, hb, hle, hm, hmm, _, hx⟩
 ·exact ⟨none, 0, [], rfl, by simp, by simp, ⟨rfl, by simp, fun h => absurd h (by simp)⟩, fun y hy => by cases hy⟩
 ·have hlm : len ≤ m := by rw [hmm]; split <;> omega
  obtain ⟨xs, hxl, hxs⟩ := listedK (R := fun i (y : α) => w.cells? base (a.add (i * sz)) sz = some (en y) ∧ Q y) len (fun i hi => by
   obtain ⟨cs', h1, h2⟩ := hx i (by omega); obtain ⟨y, rfl, hq⟩ := hE _ _ _ h2; rw [hce] at h1; exact ⟨y, h1, hq⟩)
  subst hxl; have hm' : cap ≤ 9223372036854775807 := hm; refine ⟨some a, cap, xs, rfl, hle, hm, ⟨rfl, by omega, fun _ => ⟨a, rfl, fun i y hy => ⟨en y, hl y, rfl, fun j u hu => ?_⟩⟩⟩, fun y hy => ?_⟩
  ·obtain ⟨hc, _⟩ := hxs i y hy; obtain ⟨_, hlen, hcell⟩ := World.cells?_some hc; have hj : j < sz := by rw [← hl y]; exact (List.getElem?_eq_some_iff.1 hu).1
   have := hcell j hj; rw [add_add] at this; exact this.trans hu
  ·obtain ⟨i, hi⟩ := List.getElem?_of_mem hy; exact (hxs i y hi).2
end
end Go.Proofs.YtbplemhjhpfkgaaDoor.Wr
namespace Go.Proofs.YtbplemhjhpfkgaaDoor.Wr
open Go.RowKit YtbplemhjhpfkgaaDoorW.PrintWords YtbplemhjhpfkgaaDoorW.PrintLast YtbplemhjhpfkgaaDoorW.PrintMore Rd
open Go.Proofs.YtbplemhjhpfkgaaDoor.Cd (Co At kCo kAt at_Co at_At nilCo nilAt)
theorem co_short {x : Co} (h : oneOk x = true) : x.1.size ≤ 12 ∧ x.2.2.2.2.size ≤ 12 := by
 obtain ⟨n, k, lo, hi, t⟩ := x; unfold oneOk at h; rw [Bool.and_eq_true] at h; refine ⟨name_size h.1, ?_⟩; have h2 := h.2; clear h
 show t.size ≤ 12
 split at h2
 ·rw [Bool.and_eq_true] at h2; obtain rfl := empty_of h2.2
  show (0 : Nat) ≤ 12
  decide
 ·split at h2
  ·simp only [Bool.and_eq_true, decide_eq_true_iff] at h2; omega
  ·split at h2
   ·simp only [Bool.and_eq_true, decide_eq_true_iff] at h2; omega
   ·cases h2
theorem at_short {x : At} (h : (nameOk x.1 && valOk x.2.1 x.2.2.1 x.2.2.2) = true) : x.1.size ≤ 12 ∧ x.2.2.2.size ≤ 12 := by
 obtain ⟨n, b, k, t⟩ := x; rw [Bool.and_eq_true] at h; refine ⟨name_size h.1, ?_⟩; have h2 := h.2; clear h
 show t.size ≤ 12
 unfold valOk at h2
 split at h2
 ·simp only [Bool.and_eq_true, decide_eq_true_iff] at h2; omega
 ·obtain rfl := empty_of h2
  show (0 : Nat) ≤ 12
  decide
theorem sh_right {m : MsgD} (h : rightM m = true) : ShM m :=
 ⟨fun x hx => by have := co_short (pred_each (isRight h).p x hx); omega, fun x hx => by have := at_short (tup_each (isRight h).s x hx); omega⟩
theorem text8_short {s : ByteArray} (h : s.size ≤ 12) : (text8 s).length ≤ 13 := by
 unfold text8; rw [if_neg (by omega)]; simp only [List.length_cons, bytesOf_length]; omega
theorem cW_short {x : Co} (h : oneOk x = true) : (cW x).length ≤ 30 := by
 obtain ⟨h1, h2⟩ := co_short h; have a := text8_short h1; have b := text8_short h2; unfold cW
 split
 ·simp only [List.length_append, List.length_cons, List.length_nil, be8s_len]; omega
 ·simp only [List.length_append, List.length_cons, List.length_nil]; omega
theorem aW_short {x : At} (h : (nameOk x.1 && valOk x.2.1 x.2.2.1 x.2.2.2) = true) : (aW x).length ≤ 30 := by
 obtain ⟨h1, h2⟩ := at_short h; have a := text8_short h1; have b := text8_short h2; unfold aW
 split
 ·simp only [List.length_append, List.length_cons, List.length_nil]; omega
 ·simp only [List.length_append, List.length_cons, List.length_nil, be8s_len]; omega
theorem flat_short {α : Type} (f : α → List Int) (n : Nat) : ∀ l : List α, (∀ x ∈ l, (f x).length ≤ n) → (l.flatMap f).length ≤ n * l.length
 | [], _ => by simp
 | x :: l, h => by
  have h1 := flat_short f n l (fun y hy => h y (List.mem_cons_of_mem _ hy)); have h2 := h x (List.mem_cons_self ..); simp only [List.flatMap_cons, List.length_append, List.length_cons, Nat.mul_add, Nat.mul_one]; omega
theorem five_p {m : MsgD} (h : rightM m = true) : m.p.length ≤ 5 ∧ m.s.length ≤ 5 := by
 have hp := (isRight h).p; have hs := (isRight h).s; simp only [predOk, tupOk, Bool.and_eq_true, decide_eq_true_iff] at hp hs; omega
end Go.Proofs.YtbplemhjhpfkgaaDoor.Wr
namespace Go.Proofs.YtbplemhjhpfkgaaDoor.Wr
open Go.RowKit YtbplemhjhpfkgaaDoorW.PrintWords YtbplemhjhpfkgaaDoorW.PrintLast YtbplemhjhpfkgaaDoorW.PrintMore Rd
open Go.Proofs.YtbplemhjhpfkgaaDoor.Cd (Co At kCo kAt at_Co at_At nilCo nilAt)
structure FreeM (g : Nat) (m : MsgD) (A5 A6 : Option Addr) : Prop where
 p : 0 < m.p.length → ∀ ad, A5 = some ad → ad.block ≠ g
 s : 0 < m.s.length → ∀ ad, A6 = some ad → ad.block ≠ g
theorem free_past {n g : Nat} {m : MsgD} {A5 A6 : Option Addr} (h5 : Past n A5) (h6 : Past n A6) (hg : g < n) : FreeM g m A5 A6 :=
 ⟨fun _ ad e => by have := h5 ad e; omega, fun _ ad e => by have := h6 ad e; omega⟩
theorem C_free {α : Type} {d : Kd α} (hK : ∀ W W' x cs, d.K W x cs → d.K W' x cs) {w w1 : World} {A : Option Addr} {n g : Nat} {xs : List α} (h : Kd.C d w A n xs) (hk : KeepBut w w1 g none) (hf : 0 < n → ∀ ad, A = some ad → ad.block ≠ g) : Kd.C d w1 A n xs :=
 ⟨h.1, h.2.1, fun hn => by
  obtain ⟨ad, e, hc⟩ := h.2.2 hn; refine ⟨ad, e, fun i x hx => ?_⟩; obtain ⟨cs, hl, hK', hcell⟩ := hc i x hx; exact ⟨cs, hl, hK _ _ _ _ hK', fun j u hu => keep_cell hk (hcell j u hu) (by rw [add_block]; exact hf hn ad e)⟩⟩
theorem LiesM.put {w w1 : World} {m : MsgD} {A5 A6 : Option Addr} {g : Nat} (h : LiesM w m A5 A6) (hf : FreeM g m A5 A6) (hk : KeepBut w w1 g none) : LiesM w1 m A5 A6 :=
 ⟨C_free (fun _ _ _ _ h => h) h.p hk hf.p, C_free (fun _ _ _ _ h => h) h.s hk hf.s⟩
theorem blk_keepT {w w1 : World} {b g : Nat} {o : Obj} (h : w.heap[b]? = some o) (hk : KeepBut w w1 g none) (hne : b ≠ g) : w1.heap[b]? = some o :=
 (hk.2 b (by rcases Nat.lt_or_ge b w.heap.size with h1 | h1; exact h1; rw [Array.getElem?_eq_none h1] at h; cases h) hne (by simp)).trans h
end Go.Proofs.YtbplemhjhpfkgaaDoor.Wr

/-
  An operation of short lists: what tame makes of one.
-/
import Derived.Test.YtbplemhjhpfkgaaDoorOpRow
namespace Go.Proofs.YtbplemhjhpfkgaaDoor.Cd
open Go.RowKit Go.Proofs.YtbplemhjhpfkgaaDoorW.PrintWords Go.Proofs.YtbplemhjhpfkgaaDoorW.PrintLast Go.Proofs.YtbplemhjhpfkgaaDoorW.PrintMore Go.Proofs.YtbplemhjhpfkgaaDoor.Rd
set_option linter.unusedVariables false
set_option linter.unusedSimpArgs false
def cutS (s : ByteArray) : ByteArray := s.extract 0 (min s.size 20)
def cutC (x : Co) : Co := (cutS x.1, x.2.1, x.2.2.1, x.2.2.2.1, cutS x.2.2.2.2)
def cutA (x : At) : At := (cutS x.1, x.2.1, x.2.2.1, cutS x.2.2.2)
def tameD (o : OpD) : OpD := ⟨o.k, o.c, o.q, o.h, o.a, o.t, (o.p.take 5).map cutC, (o.s.take 5).map cutA, o.r.take 20⟩
theorem own_eCo (w : World) : Kd.R kCo 44 (w.alloc (.cells #[] 44)) w.heap.size (fun _ => True) (.slice (some ⟨w.heap.size, 0, none⟩) 0 0) [] :=
  ⟨fun _ _ => trivial, [], by show World.ownsRow _ _ _ 5 _ _ _; simpa using World.ownsRow_lit (base := w.heap.size) (e := 44) (size := 5) w #[] 0 (Nat.le_refl _) (by simp) rfl, Reps.none _ _⟩
theorem own_eAt (w : World) : Kd.R kAt 59 (w.alloc (.cells #[] 59)) w.heap.size (fun _ => True) (.slice (some ⟨w.heap.size, 0, none⟩) 0 0) [] :=
  ⟨fun _ _ => trivial, [], by show World.ownsRow _ _ _ 4 _ _ _; simpa using World.ownsRow_lit (base := w.heap.size) (e := 59) (size := 4) w #[] 0 (Nat.le_refl _) (by simp) rfl, Reps.none _ _⟩
theorem own_eBy (w : World) : Kd.R (Kd.int .u8) 5 (w.alloc (.cells #[] 5)) w.heap.size (fun _ => True) (.slice (some ⟨w.heap.size, 0, none⟩) 0 0) [] :=
  Kd.R_of_own (enc := Value.int .u8) (h1 := fun _ => rfl) (by simpa [encs] using World.ownsRow_lit (base := w.heap.size) (e := 5) (size := 1) w #[] 0 (Nat.le_refl _) (by simp) rfl) (fun _ _ => trivial)
theorem cut_any {t e : TypeId} {i : TypeInfo} (ht : Tryd.prog.underlying t = some (.slice e)) (hi : Tryd.prog.info? e = some i) (A : Option Addr) (n c k : Nat) (hk : k ≤ c) :
    ∀ W : World, (Instr.slice t (.slice A n c) none (some (.int .i64 (k : Int))) none).run Tryd.prog W = .ok (.slice A k c) W := by
  intro W
  have hel : Tryd.prog.elem t = e := by simp [Program.elem, ht]
  have hu : Tryd.prog.underlying t = some (.slice (Tryd.prog.elem t)) := by rw [hel]; exact ht
  have ha : (A.map fun x => x.add 0) = A := by cases A <;> simp [Addr.add]
  rw [run_slice_h W t A n c hu .i64 (k : Int) (by omega) (by omega), hel]
  simp [sizeOf, typeInfo, hi, sliced, Result.andThen, ha]
theorem R_some {α : Type} {d : Kd α} {T : TypeId} {w : World} {base n c : Nat} {A : Option Addr} {xs : List α} (h : Kd.R d T w base (fun _ => True) (.slice A n c) xs) (hn : 0 < xs.length) : ∃ g, A = some ⟨g, 0, none⟩ ∧ ∃ cells, w.heap[g]? = some (.cells cells T (0, 0)) := by
  obtain ⟨hl, _, _⟩ := Kd.R_reads' h
  obtain ⟨_, inner, ho, _⟩ := h
  obtain ⟨h1, h2⟩ := ho
  rcases h2 with ⟨e, _⟩ | ⟨b, cap, cur, e, _, hh, _⟩
  · injection e with e1 e2 e3
    omega
  · injection e with e1 e2 e3
    exact ⟨b, e1, cur, hh⟩
theorem R_other {α β : Type} {d : Kd α} {d' : Kd β} {T T' : TypeId} {w w1 : World} {base g n c : Nat} {v : Value} {xs : List α} {ys : List β} (h : Kd.R d' T' w base (fun _ => True) v ys) (hE : d'.E = []) (hr : Kd.R d T w base (fun _ => True) (.slice (some ⟨g, 0, none⟩) n c) xs) (hp : 0 < xs.length) (ht : T' ≠ T) (hk : KeepBut w w1 g none) : Kd.R d' T' w1 base (fun _ => True) v ys := by
  obtain ⟨g', e, cells, hb⟩ := R_some hr hp
  obtain rfl : g = g' := by simpa using e
  exact R_block h hE hb ht hk
/-! ### A cell of an element written where it lies -/
theorem add_at (g k : Nat) : (⟨g, 0, none⟩ : Addr).add k = ⟨g, k, none⟩ := by rw [add_plain]
theorem fld_at (g k m : Nat) : (⟨((⟨g, 0, none⟩ : Addr).add k).block, ((⟨g, 0, none⟩ : Addr).add k).off + m, none⟩ : Addr) = ⟨g, k + m, none⟩ := by rw [add_at]
def half {α : Type} (f : α → α) (xs : List α) (j : Nat) : List α := (xs.take j).map f ++ xs.drop j
theorem half_len {α : Type} (f : α → α) (xs : List α) (j : Nat) : (half f xs j).length = xs.length := by simp [half, List.length_take, List.length_drop]; omega
theorem half_zero {α : Type} (f : α → α) (xs : List α) : half f xs 0 = xs := by simp [half]
theorem half_all {α : Type} (f : α → α) (xs : List α) : half f xs xs.length = xs.map f := by simp [half]
theorem half_get {α : Type} (f : α → α) (xs : List α) (j : Nat) (h : j < xs.length) : (half f xs j)[j]? = some xs[j] := by
  unfold half
  have hl : ((xs.take j).map f).length = j := by simp; omega
  rw [List.getElem?_append_right (by omega), hl, Nat.sub_self, List.drop_eq_getElem_cons h]
  rfl
theorem half_set {α : Type} (f : α → α) (xs : List α) (j : Nat) (h : j < xs.length) : (half f xs j).set j (f xs[j]) = half f xs (j + 1) := by
  unfold half
  have hl : ((xs.take j).map f).length = j := by simp; omega
  rw [List.set_append, if_neg (by omega), hl, Nat.sub_self, List.drop_eq_getElem_cons h, List.set_cons_zero, List.take_succ_eq_append_getElem h, List.map_append, List.append_assoc]
  rfl
section
variable {w W : World} {base g n c j : Nat} {t : TypeId}
theorem row_below (h : Below w.heap.size w W) (hg : w.heap.size ≤ g) (k : Nat) (u : Value) : Below w.heap.size w (W.setCell ((⟨g, 0, none⟩ : Addr).add k) u) := by rw [add_at]; exact below_set h hg
theorem row_below_f (h : Below w.heap.size w W) (hg : w.heap.size ≤ g) (k m : Nat) (u : Value) : Below w.heap.size w (W.setCell ⟨((⟨g, 0, none⟩ : Addr).add k).block, ((⟨g, 0, none⟩ : Addr).add k).off + m, none⟩ u) := by rw [fld_at]; exact below_set h hg
theorem row_keep (W : World) (g k : Nat) (u : Value) : KeepBut W (W.setCell ((⟨g, 0, none⟩ : Addr).add k) u) g none := by rw [add_at]; exact (KeepBut.refl W g none).set_ k u
theorem row_keep_f (W : World) (g k m : Nat) (u : Value) : KeepBut W (W.setCell ⟨((⟨g, 0, none⟩ : Addr).add k).block, ((⟨g, 0, none⟩ : Addr).add k).off + m, none⟩ u) g none := by rw [fld_at]; exact (KeepBut.refl W g none).set_ (k + m) u
end
theorem co_0_cell {w : World} {base g n c j : Nat} {xs : List Co} {x : Co} (h : Kd.R kCo 44 w base (fun _ => True) (.slice (some ⟨g, 0, none⟩) n c) xs) (hx : xs[j]? = some x) : w.cell? ⟨g, j * 5, none⟩ = some (.string x.1) ∧ w.frozen? ⟨g, j * 5, none⟩ = false := by
  obtain ⟨hn, _, hC⟩ := Kd.R_reads' h
  have hj : j < xs.length := (List.getElem?_eq_some_iff.1 hx).1
  obtain ⟨ad, e, hc⟩ := hC.2.2 (by omega)
  obtain rfl : _ = ad := Option.some.inj e
  obtain ⟨cs, _, hr, hcell⟩ := hc j x hx
  have hr' : cs = [.string x.1, .int .i64 x.2.1, .int .i64 x.2.2.1, .int .i64 x.2.2.2.1, .string x.2.2.2.2] := hr
  subst hr'
  obtain ⟨g', e', cells, hb⟩ := R_some h (by omega)
  obtain rfl : g = g' := by simpa using e'
  have h0 := hcell 0 _ rfl
  rw [add_at] at h0
  exact ⟨h0, blk_frozen hb _⟩
theorem co_0_put {w : World} {base g n c j : Nat} {xs : List Co} {x : Co} (h : Kd.R kCo 44 w base (fun _ => True) (.slice (some ⟨g, 0, none⟩) n c) xs) (hx : xs[j]? = some x) (u : ByteArray) : Kd.R kCo 44 (w.setCell ⟨g, j * 5, none⟩ (.string u)) base (fun _ => True) (.slice (some ⟨g, 0, none⟩) n c) (xs.set j (u, x.2)) := by
  obtain ⟨hn, _, hC⟩ := Kd.R_reads' h
  have hj : j < xs.length := (List.getElem?_eq_some_iff.1 hx).1
  obtain ⟨ad, e, hc⟩ := hC.2.2 (by omega)
  obtain rfl : _ = ad := Option.some.inj e
  obtain ⟨cs, hl, hr, hcell⟩ := hc j x hx
  have hs := (Kd.R_seg h (j : Int) (by omega) (by omega) (c := cs) (seg := [.string u]) (j := 0) hl (fun k v hv => by have := hcell k v hv; rw [add_at] at this; exact this) (by show 0 + 1 ≤ 5; decide) (x' := (u, x.2)) (okp := fun _ => False) (by have hr' : cs = [.string x.1, .int .i64 x.2.1, .int .i64 x.2.2.1, .int .i64 x.2.2.2.1, .string x.2.2.2.2] := hr; subst hr'; rfl) (fun _ hk => hk.elim)).1
  exact hs
theorem co_4_cell {w : World} {base g n c j : Nat} {xs : List Co} {x : Co} (h : Kd.R kCo 44 w base (fun _ => True) (.slice (some ⟨g, 0, none⟩) n c) xs) (hx : xs[j]? = some x) : w.cell? ⟨g, j * 5 + 4, none⟩ = some (.string x.2.2.2.2) ∧ w.frozen? ⟨g, j * 5 + 4, none⟩ = false := by
  obtain ⟨hn, _, hC⟩ := Kd.R_reads' h
  have hj : j < xs.length := (List.getElem?_eq_some_iff.1 hx).1
  obtain ⟨ad, e, hc⟩ := hC.2.2 (by omega)
  obtain rfl : _ = ad := Option.some.inj e
  obtain ⟨cs, _, hr, hcell⟩ := hc j x hx
  have hr' : cs = [.string x.1, .int .i64 x.2.1, .int .i64 x.2.2.1, .int .i64 x.2.2.2.1, .string x.2.2.2.2] := hr
  subst hr'
  obtain ⟨g', e', cells, hb⟩ := R_some h (by omega)
  obtain rfl : g = g' := by simpa using e'
  have h0 := hcell 4 _ rfl
  rw [add_at] at h0
  exact ⟨h0, blk_frozen hb _⟩
theorem co_4_put {w : World} {base g n c j : Nat} {xs : List Co} {x : Co} (h : Kd.R kCo 44 w base (fun _ => True) (.slice (some ⟨g, 0, none⟩) n c) xs) (hx : xs[j]? = some x) (u : ByteArray) : Kd.R kCo 44 (w.setCell ⟨g, j * 5 + 4, none⟩ (.string u)) base (fun _ => True) (.slice (some ⟨g, 0, none⟩) n c) (xs.set j (x.1, x.2.1, x.2.2.1, x.2.2.2.1, u)) := by
  obtain ⟨hn, _, hC⟩ := Kd.R_reads' h
  have hj : j < xs.length := (List.getElem?_eq_some_iff.1 hx).1
  obtain ⟨ad, e, hc⟩ := hC.2.2 (by omega)
  obtain rfl : _ = ad := Option.some.inj e
  obtain ⟨cs, hl, hr, hcell⟩ := hc j x hx
  have hs := (Kd.R_seg h (j : Int) (by omega) (by omega) (c := cs) (seg := [.string u]) (j := 4) hl (fun k v hv => by have := hcell k v hv; rw [add_at] at this; exact this) (by show 4 + 1 ≤ 5; decide) (x' := (x.1, x.2.1, x.2.2.1, x.2.2.2.1, u)) (okp := fun _ => False) (by have hr' : cs = [.string x.1, .int .i64 x.2.1, .int .i64 x.2.2.1, .int .i64 x.2.2.2.1, .string x.2.2.2.2] := hr; subst hr'; rfl) (fun _ hk => hk.elim)).1
  exact hs
theorem at_0_cell {w : World} {base g n c j : Nat} {xs : List At} {x : At} (h : Kd.R kAt 59 w base (fun _ => True) (.slice (some ⟨g, 0, none⟩) n c) xs) (hx : xs[j]? = some x) : w.cell? ⟨g, j * 4, none⟩ = some (.string x.1) ∧ w.frozen? ⟨g, j * 4, none⟩ = false := by
  obtain ⟨hn, _, hC⟩ := Kd.R_reads' h
  have hj : j < xs.length := (List.getElem?_eq_some_iff.1 hx).1
  obtain ⟨ad, e, hc⟩ := hC.2.2 (by omega)
  obtain rfl : _ = ad := Option.some.inj e
  obtain ⟨cs, _, hr, hcell⟩ := hc j x hx
  have hr' : cs = [.string x.1, .bool x.2.1, .int .i64 x.2.2.1, .string x.2.2.2] := hr
  subst hr'
  obtain ⟨g', e', cells, hb⟩ := R_some h (by omega)
  obtain rfl : g = g' := by simpa using e'
  have h0 := hcell 0 _ rfl
  rw [add_at] at h0
  exact ⟨h0, blk_frozen hb _⟩
theorem at_0_put {w : World} {base g n c j : Nat} {xs : List At} {x : At} (h : Kd.R kAt 59 w base (fun _ => True) (.slice (some ⟨g, 0, none⟩) n c) xs) (hx : xs[j]? = some x) (u : ByteArray) : Kd.R kAt 59 (w.setCell ⟨g, j * 4, none⟩ (.string u)) base (fun _ => True) (.slice (some ⟨g, 0, none⟩) n c) (xs.set j (u, x.2)) := by
  obtain ⟨hn, _, hC⟩ := Kd.R_reads' h
  have hj : j < xs.length := (List.getElem?_eq_some_iff.1 hx).1
  obtain ⟨ad, e, hc⟩ := hC.2.2 (by omega)
  obtain rfl : _ = ad := Option.some.inj e
  obtain ⟨cs, hl, hr, hcell⟩ := hc j x hx
  have hs := (Kd.R_seg h (j : Int) (by omega) (by omega) (c := cs) (seg := [.string u]) (j := 0) hl (fun k v hv => by have := hcell k v hv; rw [add_at] at this; exact this) (by show 0 + 1 ≤ 4; decide) (x' := (u, x.2)) (okp := fun _ => False) (by have hr' : cs = [.string x.1, .bool x.2.1, .int .i64 x.2.2.1, .string x.2.2.2] := hr; subst hr'; rfl) (fun _ hk => hk.elim)).1
  exact hs
theorem at_3_cell {w : World} {base g n c j : Nat} {xs : List At} {x : At} (h : Kd.R kAt 59 w base (fun _ => True) (.slice (some ⟨g, 0, none⟩) n c) xs) (hx : xs[j]? = some x) : w.cell? ⟨g, j * 4 + 3, none⟩ = some (.string x.2.2.2) ∧ w.frozen? ⟨g, j * 4 + 3, none⟩ = false := by
  obtain ⟨hn, _, hC⟩ := Kd.R_reads' h
  have hj : j < xs.length := (List.getElem?_eq_some_iff.1 hx).1
  obtain ⟨ad, e, hc⟩ := hC.2.2 (by omega)
  obtain rfl : _ = ad := Option.some.inj e
  obtain ⟨cs, _, hr, hcell⟩ := hc j x hx
  have hr' : cs = [.string x.1, .bool x.2.1, .int .i64 x.2.2.1, .string x.2.2.2] := hr
  subst hr'
  obtain ⟨g', e', cells, hb⟩ := R_some h (by omega)
  obtain rfl : g = g' := by simpa using e'
  have h0 := hcell 3 _ rfl
  rw [add_at] at h0
  exact ⟨h0, blk_frozen hb _⟩
theorem at_3_put {w : World} {base g n c j : Nat} {xs : List At} {x : At} (h : Kd.R kAt 59 w base (fun _ => True) (.slice (some ⟨g, 0, none⟩) n c) xs) (hx : xs[j]? = some x) (u : ByteArray) : Kd.R kAt 59 (w.setCell ⟨g, j * 4 + 3, none⟩ (.string u)) base (fun _ => True) (.slice (some ⟨g, 0, none⟩) n c) (xs.set j (x.1, x.2.1, x.2.2.1, u)) := by
  obtain ⟨hn, _, hC⟩ := Kd.R_reads' h
  have hj : j < xs.length := (List.getElem?_eq_some_iff.1 hx).1
  obtain ⟨ad, e, hc⟩ := hC.2.2 (by omega)
  obtain rfl : _ = ad := Option.some.inj e
  obtain ⟨cs, hl, hr, hcell⟩ := hc j x hx
  have hs := (Kd.R_seg h (j : Int) (by omega) (by omega) (c := cs) (seg := [.string u]) (j := 3) hl (fun k v hv => by have := hcell k v hv; rw [add_at] at this; exact this) (by show 3 + 1 ≤ 4; decide) (x' := (x.1, x.2.1, x.2.2.1, u)) (okp := fun _ => False) (by have hr' : cs = [.string x.1, .bool x.2.1, .int .i64 x.2.2.1, .string x.2.2.2] := hr; subst hr'; rfl) (fun _ hk => hk.elim)).1
  exact hs
end Go.Proofs.YtbplemhjhpfkgaaDoor.Cd

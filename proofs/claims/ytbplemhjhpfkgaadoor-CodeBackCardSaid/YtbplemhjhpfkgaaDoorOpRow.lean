/-
  Rows of operations.
-/
import Derived.Test.YtbplemhjhpfkgaaDoorDecode
namespace Go.Proofs.YtbplemhjhpfkgaaDoor.Cd
open Go.RowKit Go.Proofs.YtbplemhjhpfkgaaDoorW.PrintWords Go.Proofs.YtbplemhjhpfkgaaDoorW.PrintLast Go.Proofs.YtbplemhjhpfkgaaDoorW.PrintMore Go.Proofs.YtbplemhjhpfkgaaDoor.Rd
set_option linter.unusedVariables false
set_option linter.unusedSimpArgs false
/-- An operation and where its lists lie (address, capacity). -/
abbrev Pl := Option Addr × Nat
abbrev OpX := OpD × Pl × Pl × Pl
def opCells (x : OpX) : List Value := [.int .i64 x.1.k, .int .i64 x.1.c, .int .i64 x.1.q, .int .i64 x.1.h, .int .i64 x.1.a, .int .i64 x.1.t, .slice x.2.1.1 x.1.p.length x.2.1.2, .slice x.2.2.1.1 x.1.s.length x.2.2.1.2, .slice x.2.2.2.1 x.1.r.length x.2.2.2.2]
def kOp : Kd OpX := flat 9 opCells (fun _ => rfl) (by intro x u hu; simp [opCells] at hu; rcases hu with rfl | rfl | rfl | rfl | rfl | rfl | rfl | rfl | rfl <;> rfl)
abbrev LiesX (w : World) (x : OpX) : Prop := Lies w x.1 x.2.1.1 x.2.2.1.1 x.2.2.2.1
abbrev PastX (n : Nat) (x : OpX) : Prop := Past n x.2.1.1 ∧ Past n x.2.2.1.1 ∧ Past n x.2.2.2.1
abbrev oX (x : OpX) : Value := oW x.1 x.2.1.1 x.2.1.2 x.2.2.1.1 x.2.2.1.2 x.2.2.2.1 x.2.2.2.2
theorem at_Op {w : World} {A : Option Addr} {n : Nat} {xs : List OpX} (h : Kd.C kOp w A n xs) (i : Nat) (h1 : i < n) : ∃ (ad : Addr) (x : OpX), A = some ad ∧ xs[i]? = some x ∧ w.cell? (ad.add (i * 9)) = some (.int .i64 x.1.k) ∧ w.cell? ⟨(ad.add (i * 9)).block, (ad.add (i * 9)).off + 1, none⟩ = some (.int .i64 x.1.c) ∧ w.cell? ⟨(ad.add (i * 9)).block, (ad.add (i * 9)).off + 2, none⟩ = some (.int .i64 x.1.q) ∧ w.cell? ⟨(ad.add (i * 9)).block, (ad.add (i * 9)).off + 3, none⟩ = some (.int .i64 x.1.h) ∧ w.cell? ⟨(ad.add (i * 9)).block, (ad.add (i * 9)).off + 4, none⟩ = some (.int .i64 x.1.a) ∧ w.cell? ⟨(ad.add (i * 9)).block, (ad.add (i * 9)).off + 5, none⟩ = some (.int .i64 x.1.t) ∧ w.cell? ⟨(ad.add (i * 9)).block, (ad.add (i * 9)).off + 6, none⟩ = some (.slice x.2.1.1 x.1.p.length x.2.1.2) ∧ w.cell? ⟨(ad.add (i * 9)).block, (ad.add (i * 9)).off + 7, none⟩ = some (.slice x.2.2.1.1 x.1.s.length x.2.2.1.2) ∧ w.cell? ⟨(ad.add (i * 9)).block, (ad.add (i * 9)).off + 8, none⟩ = some (.slice x.2.2.2.1 x.1.r.length x.2.2.2.2) := by
  obtain ⟨ad, e, hc⟩ := h.2.2 (by omega)
  have hl : i < xs.length := by have := h.1; omega
  obtain ⟨c, hs, hr, hcell⟩ := hc i _ (List.getElem?_eq_getElem hl)
  have hr' : c = [Value.int .i64 xs[i].1.k, .int .i64 xs[i].1.c, .int .i64 xs[i].1.q, .int .i64 xs[i].1.h, .int .i64 xs[i].1.a, .int .i64 xs[i].1.t, .slice xs[i].2.1.1 xs[i].1.p.length xs[i].2.1.2, .slice xs[i].2.2.1.1 xs[i].1.s.length xs[i].2.2.1.2, .slice xs[i].2.2.2.1 xs[i].1.r.length xs[i].2.2.2.2] := hr
  subst hr'
  have hcell' : ∀ j u, ([Value.int .i64 xs[i].1.k, .int .i64 xs[i].1.c, .int .i64 xs[i].1.q, .int .i64 xs[i].1.h, .int .i64 xs[i].1.a, .int .i64 xs[i].1.t, .slice xs[i].2.1.1 xs[i].1.p.length xs[i].2.1.2, .slice xs[i].2.2.1.1 xs[i].1.s.length xs[i].2.2.1.2, .slice xs[i].2.2.2.1 xs[i].1.r.length xs[i].2.2.2.2])[j]? = some u → w.cell? (ad.add (i * 9 + j)) = some u := hcell
  exact ⟨ad, xs[i], e, List.getElem?_eq_getElem hl, hcell' 0 _ rfl, by rw [← add_field _ _ 1 (by omega)]; exact hcell' 1 _ rfl, by rw [← add_field _ _ 2 (by omega)]; exact hcell' 2 _ rfl, by rw [← add_field _ _ 3 (by omega)]; exact hcell' 3 _ rfl, by rw [← add_field _ _ 4 (by omega)]; exact hcell' 4 _ rfl, by rw [← add_field _ _ 5 (by omega)]; exact hcell' 5 _ rfl, by rw [← add_field _ _ 6 (by omega)]; exact hcell' 6 _ rfl, by rw [← add_field _ _ 7 (by omega)]; exact hcell' 7 _ rfl, by rw [← add_field _ _ 8 (by omega)]; exact hcell' 8 _ rfl⟩
theorem infoOp : (Tryd.prog.info? 30).map (fun i => (i.zero, i.size, i.bytes)) = some (some (.agg #[(.int .i64 0), (.int .i64 0), (.int .i64 0), (.int .i64 0), (.int .i64 0), (.int .i64 0), (.slice none 0 0), (.slice none 0 0), (.slice none 0 0)]), 9, 120) := by kernel_rfl
/-- A script's bytes. -/
def sB (x : OpD) : List Int := be8 ((oBy x).length : Int) ++ oBy x
theorem oBy_le {o : OpD} (h : rightD o = true) : (oBy o).length ≤ 300000 := by
  simp only [rightD, Bool.and_eq_true, decide_eq_true_iff] at h
  obtain ⟨⟨⟨_, hp, hs, hr⟩, _⟩, _⟩ := h
  have h1 := flatMap_le cB 529 cB_le o.p
  have h2 := flatMap_le aB 521 aB_le o.s
  have h3 := text8_le (strOfNums o.r)
  simp only [oBy, opB, List.length_append, List.length_cons, List.length_nil, be8s_len]
  omega
theorem sB_le {o : OpD} (h : rightD o = true) : (sB o).length ≤ 300008 := by
  have := oBy_le h
  simp only [sB, List.length_append, be8_len]
  omega
/-! ### Lists that lie beside a row that grows -/
def Off (row : Option Nat) (A : Option Addr) (n : Nat) : Prop := ∀ ad, A = some ad → 0 < n → some ad.block ≠ row
theorem C_lt {α : Type} {d : Kd α} (hs : 0 < d.sz) {w : World} {A : Option Addr} {n : Nat} {xs : List α} (h : Kd.C d w A n xs) : ∀ ad, A = some ad → 0 < n → ad.block < w.heap.size := by
  intro ad e hn
  obtain ⟨ad', e', hc⟩ := h.2.2 hn
  obtain rfl : ad = ad' := Option.some.inj (e.symm.trans e')
  have hl : 0 < xs.length := by have := h.1; omega
  obtain ⟨cs, hlen, _, hcell⟩ := hc 0 _ (List.getElem?_eq_getElem hl)
  have h0 : 0 < cs.length := by omega
  have := World.block_lt_of_cell? w _ (hcell 0 _ (List.getElem?_eq_getElem h0))
  rwa [add_block] at this
theorem C_grownF {α : Type} {d : Kd α} (hK : ∀ W W' x cs, d.K W x cs → d.K W' x cs) {w w1 : World} {A : Option Addr} {n : Nat} {xs : List α} {row : Option Nat} (h : Kd.C d w A n xs) (hg : w.grownBy w1 row) (hf : Off row A n) : Kd.C d w1 A n xs :=
  ⟨h.1, h.2.1, fun hn => by
    obtain ⟨ad, e, hc⟩ := h.2.2 hn
    refine ⟨ad, e, fun i x hx => ?_⟩
    obtain ⟨cs, hl, hK', hcell⟩ := hc i x hx
    exact ⟨cs, hl, hK _ _ _ _ hK', fun j u hu => cell_grown hg (hcell j u hu) (by rw [add_block]; exact hf ad e hn)⟩⟩
def OffX (row : Option Nat) (x : OpX) : Prop := Off row x.2.1.1 x.1.p.length ∧ Off row x.2.2.1.1 x.1.s.length ∧ Off row x.2.2.2.1 x.1.r.length
theorem LiesX_grown {w w1 : World} {row : Option Nat} {x : OpX} (h : LiesX w x) (hg : w.grownBy w1 row) (hf : OffX row x) : LiesX w1 x :=
  ⟨C_grownF (fun _ _ _ _ h => h) h.p hg hf.1, C_grownF (fun _ _ _ _ h => h) h.s hg hf.2.1, C_grownF (fun _ _ _ _ h => h) h.r hg hf.2.2⟩
theorem OffX_new {w : World} {x : OpX} (h : LiesX w x) {b : Nat} (hb : w.heap.size ≤ b) : OffX (some b) x :=
  ⟨fun ad e hn e' => by have := C_lt (d := kCo) (by decide) h.p ad e hn; cases e'; omega, fun ad e hn e' => by have := C_lt (d := kAt) (by decide) h.s ad e hn; cases e'; omega, fun ad e hn e' => by have := C_lt (d := Kd.int .u8) (by decide) h.r ad e hn; cases e'; omega⟩
theorem OffX_none (x : OpX) : OffX none x := ⟨(fun _ _ _ e => by cases e), (fun _ _ _ e => by cases e), (fun _ _ _ e => by cases e)⟩
theorem OffX_past {n : Nat} {row : Option Nat} {x : OpX} (h : PastX n x) (hr : ∀ k, row = some k → k < n) : OffX row x :=
  ⟨fun ad e _ e' => by have := h.1 ad e; have := hr _ e'.symm; omega, fun ad e _ e' => by have := h.2.1 ad e; have := hr _ e'.symm; omega, fun ad e _ e' => by have := h.2.2 ad e; have := hr _ e'.symm; omega⟩
theorem OffX_at {W : World} {v v1 : Value} {x : OpX} (h : LiesX W x) (hf : OffX v.ownBlock x) (hat : v1.ownBlock = v.ownBlock ∨ ∃ b, v1.ownBlock = some b ∧ W.heap.size ≤ b) : OffX v1.ownBlock x := by
  rcases hat with e | ⟨b, e, hb⟩
  · rw [e]; exact hf
  · rw [e]; exact OffX_new h hb
end Go.Proofs.YtbplemhjhpfkgaaDoor.Cd

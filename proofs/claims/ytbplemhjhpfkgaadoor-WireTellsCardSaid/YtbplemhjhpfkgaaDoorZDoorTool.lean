/-
 Tools for the laws of chapters 8 and 23: IDs as bytes, rows appended one behind the other.
-/
import Derived.Test.YtbplemhjhpfkgaaDoorZNumD
namespace Go.Proofs.YtbplemhjhpfkgaaDoor.Rd
open Go.RowKit YtbplemhjhpfkgaaDoorW.PrintWords YtbplemhjhpfkgaaDoorW.PrintLast YtbplemhjhpfkgaaDoorW.PrintMore
set_option linter.unusedVariables false
set_option linter.unusedSimpArgs false
theorem cells_at {w0 w : World} (h : Below w0.heap.size w0 w) {a : Addr} {v : Value} (hc : w0.cell? a = some v) : w.cell? a = some v := (h.cell (World.block_lt_of_cell? w0 a hc)).trans hc
set_option maxHeartbeats 800000 in
theorem nid_calls (a b : Int) (w : World) : Calls Tryd.prog 84 #[.agg #[.int .i64 a, .int .i64 b]] w fun e w' => ∃ v, e = .returned v ∧ Kd.R (Kd.int .u8) 5 w' w.heap.size (fun _ => True) v (be8s [a, b]) ∧ Below w.heap.size w w' := by
 have HB := sd (below_alloc (below_alloc (Below.refl w.heap.size w) (.cells #[.int .i64 a, .int .i64 b] 48)) (.cells #[.int .i64 a, .int .i64 b] 3)); have hC := C_lit .i64 [a, b] (w.alloc (.cells #[.int .i64 a, .int .i64 b] 48)) 3 (by simp); have hs : (w.alloc (.cells #[.int .i64 a, .int .i64 b] 48)).heap.size = w.heap.size + 1 := by simp
 rw [hs] at hC; have HN := Lib.hid (num_calls (some ⟨w.heap.size + 1, 0, none⟩) 2 [a, b] _ hC (by simp)); clear hC hs
 go_enter Tryd.func84, Tryd.ntmps84
 go_wp2_with (first | (go_at_call 66; refine HN.out.mono ?_; rintro e w1 ⟨v, rfl, hR, hBn⟩; have HR := sd hR; have HBn := sd hBn; clear hR hBn)); go_ret; exact ⟨v, rfl, Kd.R_lower HR.out HB.out.size, below_step HB.out HBn.out⟩
def Far (v s : Value) : Prop := ∀ k, v.ownBlock = some k → some k ≠ s.ownBlock
theorem far_new {v s : Value} {N : Nat} (hv : ∀ k, v.ownBlock = some k → k < N) (hs : ∀ k, s.ownBlock = some k → N ≤ k) : Far v s := by
 intro k hk he; have h1 := hv k hk; have h2 := hs k he.symm; omega
theorem own_oneR (w : World) (x : Int) : Kd.R (Kd.int .u8) 5 (w.alloc (.cells #[.int .u8 x] 5)) w.heap.size (fun _ => True) (.slice (some ⟨w.heap.size, 0, none⟩) 1 1) [x] :=
 Kd.R_of_own (enc := Value.int .u8) (h1 := fun _ => rfl) (by simpa [encs] using World.ownsRow_lit (base := w.heap.size) (e := 5) (size := 1) w #[.int .u8 x] 1 (Nat.le_refl _) (by simp [maxLen]) rfl) (fun _ _ => trivial)
theorem cat_step_at {P : Program} {ops : Array Oper} {o : Oper} {a : Act} {Q : Exit → Act → World → Prop} {Kc : Act → World → Prop} {α : Type} (d : Kd α) (hf : ∀ W base ok x cs, d.K W x cs → d.M W base ok x cs) (w0 W : World) (base : Nat) (hw : Region.wanted o (yielded ops a.tmps) = true) (s x : Operand) (t e : TypeId) (z : Value) (bytes : Nat)
  (ho : o.op = .call { callee := .builtin .append, args := #[s, x], argTypes := #[t, t] })
  (ht : P.underlying t = some (.slice e)) (hinfo : (P.info? e).map (fun i => (i.zero, i.size, i.bytes)) = some (some z, d.sz, bytes)) (hz : z.cells.size = d.sz) (hs0 : 0 < d.sz) (hb0 : 0 < bytes)
  (v : Value) (xs ys : List α) (A : Option Addr) (m c : Nat) (hs : a.eval s = v) (hx : a.eval x = .slice A m c)
  (HO : d.R e W base (fun _ => True) v xs) (HR : d.C W A m ys) (HB : Below base w0 W) (hbase : base ≤ W.heap.size) (hl : (xs.length + m) * bytes ≤ 140737488355328)
  (h : ∀ v1 w1, d.R e w1 base (fun _ => True) v1 (xs ++ ys) → Below base w0 w1 → W.grownBy w1 v.ownBlock → (v1.ownBlock = v.ownBlock ∨ ∃ b, v1.ownBlock = some b ∧ W.heap.size ≤ b) → Kc (a.put o.dst v1) w1) :
  if Region.wanted o (yielded ops a.tmps) = true then Oper.wp P o a W Kc Q else Kc (a.put o.dst undef) W :=
 Kd.R_append_rows_step d base hw s x t e z bytes ho ht hinfo hz hs0 hb0 v xs ys A m c (fun _ => True) (fun _ => False) hs hx HO HR (fun x cs h => hf _ _ _ _ _ h) (fun _ h => h.elim) (fun _ _ => trivial) HB hbase hl h
theorem intKM {k : IntKind} : ∀ W base ok x cs, (Kd.int k).K W x cs → (Kd.int k).M W base ok x cs := fun _ _ _ _ _ h => h
end Go.Proofs.YtbplemhjhpfkgaaDoor.Rd

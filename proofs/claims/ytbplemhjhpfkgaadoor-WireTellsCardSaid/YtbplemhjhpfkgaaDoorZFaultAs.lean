/-
 errors.As over chains of faults that end in an Errno; fault.New, fault.Kind, fault.Place.
-/
import Derived.Test.YtbplemhjhpfkgaaDoorZFault
namespace Go.Proofs.YtbplemhjhpfkgaaDoor.Ft
open Go.RowKit Go.Extern.Stop Go.Stop Go.Extern YtbplemhjhpfkgaaDoorW.PrintWords YtbplemhjhpfkgaaDoorW.PrintLast YtbplemhjhpfkgaaDoorW.PrintMore
set_option linter.unusedVariables false
set_option linter.unusedSimpArgs false
def Chain (w : World) : List (ByteArray × Int) → Int → Value → Prop
 | [], c, v => v = .iface 31 (.int .i64 c)
 | x :: r, c, v => ∃ (g : Nat) (u : Value), v = .iface 117 (.pointer (some ⟨g, 0, none⟩)) ∧ w.heap[g]? = some (.cells #[.string x.1, .int .i64 x.2, u] 119 (0, 0)) ∧ Chain w r c u
theorem Chain.below {w w' : World} (h : Below w.heap.size w w') : ∀ {fs : List (ByteArray × Int)} {c : Int} {v : Value}, Chain w fs c v → Chain w' fs c v
 | [], _, _, hc => hc
 | x :: r, _, _, ⟨g, u, e, hb, hr⟩ => ⟨g, u, e, blk_below hb h, Chain.below h hr⟩
theorem cells_at {w0 w : World} (h : Below w0.heap.size w0 w) {a : Addr} {v : Value} (hc : w0.cell? a = some v) : w.cell? a = some v := (h.cell (World.block_lt_of_cell? w0 a hc)).trans hc

theorem below_ga {w : World} {ga : Nat} (h : ga < w.heap.size) (v : Value) (o1 o2 : Obj) : Below ga w (((w.setCell ⟨ga, 0, none⟩ v).alloc o1).alloc o2) := by
 have hs : (w.setCell ⟨ga, 0, none⟩ v).heap.size = w.heap.size := by simp [World.setCell]
 exact (((Below.refl ga w).setCell (Nat.le_refl _) v).alloc (by rw [hs]; omega) o1).alloc (by simp [hs]; omega) o2
set_option maxHeartbeats 800000 in
theorem unwrap_calls (g : Nat) (s : ByteArray) (n : Int) (u : Value) (w : World) (hb : w.heap[g]? = some (.cells #[.string s, .int .i64 n, u] 119 (0, 0))) : Calls Tryd.prog 123 #[.pointer (some ⟨g, 0, none⟩)] w fun e w' => e = .returned u ∧ w = w' := by
 have c2 := (blk_cell hb 2).trans (rfl : _ = some u); clear hb
 go_enter Tryd.func123, Tryd.ntmps123
 go_wp2; go_ret; exact ⟨rfl, rfl⟩
set_option maxHeartbeats 800000 in
theorem new_calls (s : ByteArray) (n : Int) (t : TypeId) (v : Value) (w : World) : Calls Tryd.prog 44 #[.string s, .int .i64 n, .iface t v] w fun e w' => e = .returned (.iface 117 (.pointer (some ⟨w.heap.size, 0, none⟩))) ∧ w' = w.alloc (.cells #[.string s, .int .i64 n, .iface t v] 119) := by
 go_enter Tryd.func44, Tryd.ntmps44
 go_wp2; go_ret; exact ⟨rfl, rfl⟩
theorem new_chain {s : ByteArray} {n c : Int} {fs : List (ByteArray × Int)} {v : Value} {w : World} (h : Chain w fs c v) : Calls Tryd.prog 44 #[.string s, .int .i64 n, v] w fun e w' => ∃ u, e = .returned u ∧ Chain w' ((s, n) :: fs) c u ∧ Below w.heap.size w w' := by
 have key : ∀ t x, v = .iface t x → Calls Tryd.prog 44 #[.string s, .int .i64 n, v] w fun e w' => ∃ u, e = .returned u ∧ Chain w' ((s, n) :: fs) c u ∧ Below w.heap.size w w' := by
  rintro t x rfl; refine (new_calls s n t x w).mono ?_; rintro e w' ⟨he, rfl⟩; have hB := below_alloc (Below.refl w.heap.size w) (.cells #[.string s, .int .i64 n, .iface t x] 119); exact ⟨_, he, ⟨w.heap.size, _, rfl, blk_new w _, h.below hB⟩, hB⟩
 cases fs with
 | nil => exact key _ _ h
 | cons y r => obtain ⟨g, u, e, _⟩ := h; exact key _ _ e

set_option maxRecDepth 100000 in
set_option maxHeartbeats 4000000 in
theorem asE_calls (fs : List (ByteArray × Int)) (c : Int) (v tg old : Value) (ga gp : Nat) (w : World) (hc : Chain w fs c v) (hp : w.heap[gp]? = some (.cells #[.pointer (some ⟨ga, 0, none⟩)] 101 (0, 0))) (ha : w.heap[ga]? = some (.cells #[old] 31 (0, 0))) :
  Calls Tryd.prog 82 #[v, tg, .agg #[.pointer (some ⟨1, 101, none⟩), .pointer (some ⟨gp, 0, none⟩), .int .u64 150], .iface 163 (.agg #[.pointer (some ⟨1, 31, none⟩)])] w fun e w' => e = .returned (.bool true) ∧ w'.heap[ga]? = some (.cells #[.int .i64 c] 31 (0, 0)) ∧ Below ga w w' := by
 have hto := @run_callFunc_extern Tryd.prog 100 _ (ReflectliteType.typeOf) Tryd.func100 (by kernel_rfl) (by kernel_rfl) (by kernel_rfl) (by kernel_rfl); have hat := @run_callFunc_extern Tryd.prog 128 _ ((ReflectliteType.relation "AssignableTo" ReflectliteType.assignableTo)) Tryd.func128 (by kernel_rfl) (by kernel_rfl) (by kernel_rfl) (by kernel_rfl); have hve := @run_callFunc_extern Tryd.prog 101 _ ((ReflectliteValue.method (ReflectliteValue.valueError "reflectlite.Value.Elem" 0) ReflectliteValue.elem)) Tryd.func101 (by kernel_rfl) (by kernel_rfl) (by kernel_rfl) (by kernel_rfl); have hvo := @run_callFunc_extern Tryd.prog 79 _ (fun args => ReflectliteValue.unpack (args.getD 0 (.tuple #[]))) Tryd.func79 (by kernel_rfl) (by kernel_rfl) (by kernel_rfl) (by kernel_rfl); have hse := @run_callFunc_extern Tryd.prog 102 _ (ReflectliteValue.set) Tryd.func102 (by kernel_rfl) (by kernel_rfl) (by kernel_rfl) (by kernel_rfl); have lmethodAssignableTo := methodAssignableTo; have ltypeOfE := typeOfE; have ltypeOfF := typeOfF; have lnoAsE := noAsE; have lnoAsF := noAsF; have lnoUnE := noUnE; have lnoUnsE := noUnsE; have lunF := unF; have lmethodUnwrap := methodUnwrap; have lassignEE := assignEE; have lassignFE := assignFE; have lvalueOfE := valueOfE; have HC := sd hc; have HA := sd ha; have hgl := blk_lt ha; have hpl := blk_lt hp; have p0 := (blk_cell hp 0).trans (rfl : _ = some (Value.pointer (some ⟨ga, 0, none⟩))); have a0 := (blk_cell ha 0).trans (rfl : _ = some old); have f0 := blk_frozen ha 0; have lelemV := elemVE ⟨gp, 0, none⟩ ⟨ga, 0, none⟩ (w.alloc (.cells #[.pointer (some ⟨1, 101, none⟩), .pointer (some ⟨gp, 0, none⟩), .int .u64 150] 138)) (by rw [World.cell?_alloc_lt _ _ ⟨gp, 0, none⟩ hpl]; exact p0); have lset := setE ⟨ga, 0, none⟩ ⟨w.heap.size + 1, 0, none⟩ c old ((w.alloc (.cells #[.pointer (some ⟨1, 101, none⟩), .pointer (some ⟨gp, 0, none⟩), .int .u64 150] 138)).alloc (.cells #[.int .i64 c] 31)) (by rw [World.cell?_alloc_at _ _ _ _ (by simp)]; rfl) (by rw [World.cell?_alloc_lt _ _ ⟨ga, 0, none⟩ (by simp; omega), World.cell?_alloc_lt _ _ ⟨ga, 0, none⟩ hgl]; exact a0) (by rw [World.frozen?_alloc_old _ _ ⟨ga, 0, none⟩ (by simp; omega), World.frozen?_alloc_old _ _ ⟨ga, 0, none⟩ (Nat.ne_of_lt hgl)]; exact f0); have HW : Aside0 ((w.alloc (.cells #[.pointer (some ⟨1, 101, none⟩), .pointer (some ⟨gp, 0, none⟩), .int .u64 150] 138)).heap.size = w.heap.size + 1) := ⟨by simp⟩; clear hc ha hp
 go_enter Tryd.func82, Tryd.ntmps82
 go_wp2
 go_loopg [0] fs.length (fun k u wr => ∃ fs' : List (ByteArray × Int), k = fs'.length ∧ Aside0 (Chain w fs' c u) ∧ wr = (w.alloc (.cells #[.pointer (some ⟨1, 101, none⟩), .pointer (some ⟨gp, 0, none⟩), .int .u64 150] 138)))
 case atStart => exact ⟨fs, rfl, HC, rfl⟩
 case round =>
  obtain ⟨fs', rfl, hch, rfl⟩ := hrel; cases fs' with
  | nil =>
   have he := hch.out; have he' : u0 = .iface 31 (.int .i64 c) := he; clear hch he; subst he'; go_wp2; go_ret; refine ⟨rfl, ?_, ?_⟩
   ·exact blk_alloc (blk_alloc (blk_put HA.out 0 _ rfl) _) _
   ·exact below_ga hgl _ _ _
  | cons x r =>
   obtain ⟨g, u, he, hb, hr⟩ := hch.out; clear hch; subst he; have hu := unwrap_calls g x.1 x.2 u _ (blk_alloc hb (.cells #[.pointer (some ⟨1, 101, none⟩), .pointer (some ⟨gp, 0, none⟩), .int .u64 150] 138)); have HU := sd hu; have HR := sd hr
   have hne : ∃ t z, u = .iface t z := by
    cases r with
    | nil => exact ⟨_, _, hr⟩
    | cons y r' => obtain ⟨g', u', e, _⟩ := hr; exact ⟨_, _, e⟩
   obtain ⟨ut, uz, rfl⟩ := hne; clear hu hr hb; go_wp2_with (first | (go_at_call 123; refine HU.out.mono ?_; rintro e w1 ⟨rfl, rfl⟩))
   go_roundg r.length
   case measure => simp
   case rel => exact ⟨r, rfl, HR, rfl⟩

set_option maxRecDepth 100000 in
set_option maxHeartbeats 4000000 in
theorem asF_calls (x : ByteArray × Int) (r : List (ByteArray × Int)) (c : Int) (v tg old : Value) (ga gp : Nat) (w : World) (hc : Chain w (x :: r) c v) (hp : w.heap[gp]? = some (.cells #[.pointer (some ⟨ga, 0, none⟩)] 120 (0, 0))) (ha : w.heap[ga]? = some (.cells #[old] 117 (0, 0))) :
  Calls Tryd.prog 82 #[v, tg, .agg #[.pointer (some ⟨1, 120, none⟩), .pointer (some ⟨gp, 0, none⟩), .int .u64 150], .iface 163 (.agg #[.pointer (some ⟨1, 117, none⟩)])] w fun e w' => e = .returned (.bool true) ∧ (∃ (g : Nat) (u : Value), v = .iface 117 (.pointer (some ⟨g, 0, none⟩)) ∧ w.heap[g]? = some (.cells #[.string x.1, .int .i64 x.2, u] 119 (0, 0)) ∧ Chain w r c u ∧ w'.heap[ga]? = some (.cells #[.pointer (some ⟨g, 0, none⟩)] 117 (0, 0))) ∧ Below ga w w' ∧ KeepBut w w' ga none := by
 have hto := @run_callFunc_extern Tryd.prog 100 _ (ReflectliteType.typeOf) Tryd.func100 (by kernel_rfl) (by kernel_rfl) (by kernel_rfl) (by kernel_rfl); have hat := @run_callFunc_extern Tryd.prog 128 _ ((ReflectliteType.relation "AssignableTo" ReflectliteType.assignableTo)) Tryd.func128 (by kernel_rfl) (by kernel_rfl) (by kernel_rfl) (by kernel_rfl); have hve := @run_callFunc_extern Tryd.prog 101 _ ((ReflectliteValue.method (ReflectliteValue.valueError "reflectlite.Value.Elem" 0) ReflectliteValue.elem)) Tryd.func101 (by kernel_rfl) (by kernel_rfl) (by kernel_rfl) (by kernel_rfl); have hvo := @run_callFunc_extern Tryd.prog 79 _ (fun args => ReflectliteValue.unpack (args.getD 0 (.tuple #[]))) Tryd.func79 (by kernel_rfl) (by kernel_rfl) (by kernel_rfl) (by kernel_rfl); have hse := @run_callFunc_extern Tryd.prog 102 _ (ReflectliteValue.set) Tryd.func102 (by kernel_rfl) (by kernel_rfl) (by kernel_rfl) (by kernel_rfl); have lmethodAssignableTo := methodAssignableTo; have ltypeOfE := typeOfE; have ltypeOfF := typeOfF; have lnoAsE := noAsE; have lnoAsF := noAsF; have lnoUnE := noUnE; have lnoUnsE := noUnsE; have lunF := unF; have lmethodUnwrap := methodUnwrap; have lassignEF := assignEF; have lassignFF := assignFF; have lvalueOfF := valueOfF; obtain ⟨g, u, rfl, hb, hr⟩ := hc; have HC := sd (And.intro hb hr); have HA := sd ha; have hgl := blk_lt ha; have hpl := blk_lt hp; have p0 := (blk_cell hp 0).trans (rfl : _ = some (Value.pointer (some ⟨ga, 0, none⟩))); have a0 := (blk_cell ha 0).trans (rfl : _ = some old); have f0 := blk_frozen ha 0; have lelemV := elemVF ⟨gp, 0, none⟩ ⟨ga, 0, none⟩ (w.alloc (.cells #[.pointer (some ⟨1, 120, none⟩), .pointer (some ⟨gp, 0, none⟩), .int .u64 150] 138)) (by rw [World.cell?_alloc_lt _ _ ⟨gp, 0, none⟩ hpl]; exact p0); have lset := setF ⟨ga, 0, none⟩ ⟨w.heap.size + 1, 0, none⟩ ⟨g, 0, none⟩ old ((w.alloc (.cells #[.pointer (some ⟨1, 120, none⟩), .pointer (some ⟨gp, 0, none⟩), .int .u64 150] 138)).alloc (.cells #[.pointer (some ⟨g, 0, none⟩)] 117)) (by rw [World.cell?_alloc_at _ _ _ _ (by simp)]; rfl) (by rw [World.cell?_alloc_lt _ _ ⟨ga, 0, none⟩ (by simp; omega), World.cell?_alloc_lt _ _ ⟨ga, 0, none⟩ hgl]; exact a0) (by rw [World.frozen?_alloc_old _ _ ⟨ga, 0, none⟩ (by simp; omega), World.frozen?_alloc_old _ _ ⟨ga, 0, none⟩ (Nat.ne_of_lt hgl)]; exact f0); clear ha hp hb hr
 go_enter Tryd.func82, Tryd.ntmps82
 go_wp2; refine wp_loop_rounds 1 ?_; rw [rounds_succ]; go_wp2; go_ret; refine ⟨rfl, ⟨g, u, rfl, HC.out.1, HC.out.2, ?_⟩, ?_⟩
 ·exact blk_alloc (blk_alloc (blk_put HA.out 0 _ rfl) _) _
 ·exact ⟨below_ga hgl _ _ _, keep_alloc (keep_alloc ((KeepBut.refl w ga none).set_ 0 _) _) _⟩
end Go.Proofs.YtbplemhjhpfkgaaDoor.Ft

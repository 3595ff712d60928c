/-
  errors.As at the targets *api.Errno, **fault.Fault; fault.Kind, fault.Place.
-/
import Derived.Test.YtbplemhjhpfkgaaDoorFaultAs
namespace Go.Proofs.YtbplemhjhpfkgaaDoor.Ft
open Go.RowKit Go.Extern.Stop Go.Stop Go.Extern Go.Proofs.YtbplemhjhpfkgaaDoorW.PrintWords Go.Proofs.YtbplemhjhpfkgaaDoorW.PrintLast Go.Proofs.YtbplemhjhpfkgaaDoorW.PrintMore
set_option linter.unusedVariables false
set_option linter.unusedSimpArgs false
/-- The package variable errors.errorType, as its text lays it. -/
def Door (w : World) : Prop := w.cell? ⟨0, 0, none⟩ = some (.iface 163 (.agg #[.pointer (some ⟨1, 24, none⟩)]))
theorem Door.below {w0 w : World} (h : Door w0) (hb : Below w0.heap.size w0 w) : Door w := cells_at hb h
theorem Door.lt {w : World} (h : Door w) : 0 < w.heap.size := World.block_lt_of_cell? w ⟨0, 0, none⟩ h
theorem chain_iface {w : World} {fs : List (ByteArray × Int)} {c : Int} {v : Value} (h : Chain w fs c v) : ∃ t z, v = .iface t z := by
  cases fs with
  | nil => exact ⟨_, _, h⟩
  | cons y r => obtain ⟨g, u, e, _⟩ := h; exact ⟨_, _, e⟩

set_option maxRecDepth 100000 in
set_option maxHeartbeats 4000000 in
theorem AsE_calls (fs : List (ByteArray × Int)) (c : Int) (v old : Value) (ga : Nat) (w : World) (hg : Door w) (hc : Chain w fs c v) (ha : w.heap[ga]? = some (.cells #[old] 31 (0, 0))) :
    Calls Tryd.prog 46 #[v, .iface 101 (.pointer (some ⟨ga, 0, none⟩))] w fun e w' => e = .returned (.bool true) ∧ w'.heap[ga]? = some (.cells #[.int .i64 c] 31 (0, 0)) ∧ Below ga w w' := by
  have hvo := @run_callFunc_extern Tryd.prog 79 _ (fun args => ReflectliteValue.unpack (args.getD 0 (.tuple #[]))) Tryd.func79 (by kernel_rfl) (by kernel_rfl) (by kernel_rfl) (by kernel_rfl)
  have hty := @run_callFunc_extern Tryd.prog 80 _ ((ReflectliteValue.methodAny (ReflectliteValue.valueError "reflectlite.Value.Type" 0) (fun t _ _ _ => ReflectliteType.toType t))) Tryd.func80 (by kernel_rfl) (by kernel_rfl) (by kernel_rfl) (by kernel_rfl)
  have hni := @run_callFunc_extern Tryd.prog 81 _ ((ReflectliteValue.method (ReflectliteValue.valueError "reflectlite.Value.IsNil" 0) ReflectliteValue.isNil)) Tryd.func81 (by kernel_rfl) (by kernel_rfl) (by kernel_rfl) (by kernel_rfl)
  have hki := @run_callFunc_extern Tryd.prog 118 _ ((ReflectliteType.abiMethod fun t => do pure (.int .u8 (← Rtype.kind t)))) Tryd.func118 (by kernel_rfl) (by kernel_rfl) (by kernel_rfl) (by kernel_rfl)
  have hel := @run_callFunc_extern Tryd.prog 130 _ ((ReflectliteType.method ReflectliteType.elem)) Tryd.func130 (by kernel_rfl) (by kernel_rfl) (by kernel_rfl) (by kernel_rfl)
  have him := @run_callFunc_extern Tryd.prog 131 _ ((ReflectliteType.relation "Implements" ReflectliteType.implements_)) Tryd.func131 (by kernel_rfl) (by kernel_rfl) (by kernel_rfl) (by kernel_rfl)
  have lmethodKind := methodKind
  have lmethodElem := methodElem
  have lmethodImplements := methodImplements
  have lvalueOfTE := valueOfTE
  have ltypeTE := typeTE
  have lkindTE := kindTE
  have lkindEE := kindEE
  have lelemTE := elemTE
  have limplementsE := implementsE
  have hgl := blk_lt ha
  have hlt := Door.lt hg
  have hg2 : ((w.alloc (.cells #[.pointer (some ⟨ga, 0, none⟩)] 101)).alloc (.cells #[.pointer (some ⟨1, 101, none⟩), .pointer (some ⟨w.heap.size, 0, none⟩), .int .u64 150] 138)).cell? ⟨0, 0, none⟩ = some (.iface 163 (.agg #[.pointer (some ⟨1, 24, none⟩)])) := by
    rw [World.cell?_alloc_lt _ _ ⟨0, 0, none⟩ (by simp), World.cell?_alloc_lt _ _ ⟨0, 0, none⟩ hlt]; exact hg
  have n8 := isNilTE ⟨w.heap.size, 0, none⟩ ⟨ga, 0, none⟩ ((w.alloc (.cells #[.pointer (some ⟨ga, 0, none⟩)] 101)).alloc (.cells #[.pointer (some ⟨1, 101, none⟩), .pointer (some ⟨w.heap.size, 0, none⟩), .int .u64 150] 138)) (by rw [World.cell?_alloc_lt _ _ ⟨w.heap.size, 0, none⟩ (by simp)]; simp)
  have hB1 := below_alloc (Below.refl w.heap.size w) (.cells #[.pointer (some ⟨ga, 0, none⟩)] 101)
  have hB2 := below_alloc hB1 (.cells #[.pointer (some ⟨1, 101, none⟩), .pointer (some ⟨w.heap.size, 0, none⟩), .int .u64 150] 138)
  have hbk : Below ga w ((w.alloc (.cells #[.pointer (some ⟨ga, 0, none⟩)] 101)).alloc (.cells #[.pointer (some ⟨1, 101, none⟩), .pointer (some ⟨w.heap.size, 0, none⟩), .int .u64 150] 138)) := hB2.mono (Nat.le_of_lt hgl)
  obtain ⟨vt, vz, rfl⟩ := chain_iface hc
  have HS := Aside0.mk (asE_calls fs c (.iface vt vz) (.iface 101 (.pointer (some ⟨ga, 0, none⟩))) old ga w.heap.size ((w.alloc (.cells #[.pointer (some ⟨ga, 0, none⟩)] 101)).alloc (.cells #[.pointer (some ⟨1, 101, none⟩), .pointer (some ⟨w.heap.size, 0, none⟩), .int .u64 150] 138)) (Chain.below hB2 hc) (blk_alloc (blk_new w _) _) (blk_alloc (blk_alloc ha _) _))
  have HB := Aside0.mk hbk
  clear hc ha hB1 hB2 hbk
  go_enter Tryd.func46, Tryd.ntmps46
  go_wp2_with (first | (go_at_call 82; refine HS.out.mono ?_; rintro e w' ⟨rfl, hq, hB⟩; have HQ := Aside0.mk (And.intro hq (HB.out.trans hB)); clear hq hB))
  go_ret
  exact ⟨rfl, HQ.out⟩
set_option maxHeartbeats 1600000 in
theorem kind_calls (fs : List (ByteArray × Int)) (c : Int) (v : Value) (w : World) (hg : Door w) (hc : Chain w fs c v) : Calls Tryd.prog 15 #[v] w fun e w' => e = .returned (.int .i64 c) ∧ Below w.heap.size w w' := by
  have hB := below_alloc (Below.refl w.heap.size w) (.cells #[.int .i64 0] 31)
  have HS := Aside0.mk (AsE_calls fs c v (.int .i64 0) w.heap.size _ (hg.below hB) (Chain.below hB hc) (blk_new w _))
  have HB := Aside0.mk hB
  clear hB hc hg
  go_enter Tryd.func15, Tryd.ntmps15
  go_wp2_with (first | (go_at_call 46; refine HS.out.mono ?_; rintro e w1 ⟨rfl, hq, hB⟩; have q0 := (blk_cell hq 0).trans (rfl : _ = some (Value.int .i64 c)); replace HB := Aside0.mk (HB.out.trans hB); clear hq hB))
  go_ret
  exact ⟨rfl, HB.out⟩

set_option maxRecDepth 100000 in
set_option maxHeartbeats 4000000 in
theorem AsF_calls (x : ByteArray × Int) (r : List (ByteArray × Int)) (c : Int) (v old : Value) (ga : Nat) (w : World) (hg : Door w) (hc : Chain w (x :: r) c v) (ha : w.heap[ga]? = some (.cells #[old] 117 (0, 0))) :
    Calls Tryd.prog 46 #[v, .iface 120 (.pointer (some ⟨ga, 0, none⟩))] w fun e w' => e = .returned (.bool true) ∧ (∃ (g : Nat) (u : Value), v = .iface 117 (.pointer (some ⟨g, 0, none⟩)) ∧ w.heap[g]? = some (.cells #[.string x.1, .int .i64 x.2, u] 119 (0, 0)) ∧ Chain w r c u ∧ w'.heap[ga]? = some (.cells #[.pointer (some ⟨g, 0, none⟩)] 117 (0, 0))) ∧ Below ga w w' ∧ KeepBut w w' ga none := by
  have hvo := @run_callFunc_extern Tryd.prog 79 _ (fun args => ReflectliteValue.unpack (args.getD 0 (.tuple #[]))) Tryd.func79 (by kernel_rfl) (by kernel_rfl) (by kernel_rfl) (by kernel_rfl)
  have hty := @run_callFunc_extern Tryd.prog 80 _ ((ReflectliteValue.methodAny (ReflectliteValue.valueError "reflectlite.Value.Type" 0) (fun t _ _ _ => ReflectliteType.toType t))) Tryd.func80 (by kernel_rfl) (by kernel_rfl) (by kernel_rfl) (by kernel_rfl)
  have hni := @run_callFunc_extern Tryd.prog 81 _ ((ReflectliteValue.method (ReflectliteValue.valueError "reflectlite.Value.IsNil" 0) ReflectliteValue.isNil)) Tryd.func81 (by kernel_rfl) (by kernel_rfl) (by kernel_rfl) (by kernel_rfl)
  have hki := @run_callFunc_extern Tryd.prog 118 _ ((ReflectliteType.abiMethod fun t => do pure (.int .u8 (← Rtype.kind t)))) Tryd.func118 (by kernel_rfl) (by kernel_rfl) (by kernel_rfl) (by kernel_rfl)
  have hel := @run_callFunc_extern Tryd.prog 130 _ ((ReflectliteType.method ReflectliteType.elem)) Tryd.func130 (by kernel_rfl) (by kernel_rfl) (by kernel_rfl) (by kernel_rfl)
  have him := @run_callFunc_extern Tryd.prog 131 _ ((ReflectliteType.relation "Implements" ReflectliteType.implements_)) Tryd.func131 (by kernel_rfl) (by kernel_rfl) (by kernel_rfl) (by kernel_rfl)
  have lmethodKind := methodKind
  have lmethodElem := methodElem
  have lmethodImplements := methodImplements
  have lvalueOfTF := valueOfTF
  have ltypeTF := typeTF
  have lkindTF := kindTF
  have lkindEF := kindEF
  have lelemTF := elemTF
  have limplementsF := implementsF
  have hgl := blk_lt ha
  have hlt := Door.lt hg
  have hg2 : ((w.alloc (.cells #[.pointer (some ⟨ga, 0, none⟩)] 120)).alloc (.cells #[.pointer (some ⟨1, 120, none⟩), .pointer (some ⟨w.heap.size, 0, none⟩), .int .u64 150] 138)).cell? ⟨0, 0, none⟩ = some (.iface 163 (.agg #[.pointer (some ⟨1, 24, none⟩)])) := by
    rw [World.cell?_alloc_lt _ _ ⟨0, 0, none⟩ (by simp), World.cell?_alloc_lt _ _ ⟨0, 0, none⟩ hlt]; exact hg
  have n8 := isNilTF ⟨w.heap.size, 0, none⟩ ⟨ga, 0, none⟩ ((w.alloc (.cells #[.pointer (some ⟨ga, 0, none⟩)] 120)).alloc (.cells #[.pointer (some ⟨1, 120, none⟩), .pointer (some ⟨w.heap.size, 0, none⟩), .int .u64 150] 138)) (by rw [World.cell?_alloc_lt _ _ ⟨w.heap.size, 0, none⟩ (by simp)]; simp)
  have hB1 := below_alloc (Below.refl w.heap.size w) (.cells #[.pointer (some ⟨ga, 0, none⟩)] 120)
  have hB2 := below_alloc hB1 (.cells #[.pointer (some ⟨1, 120, none⟩), .pointer (some ⟨w.heap.size, 0, none⟩), .int .u64 150] 138)
  have hbk : Below ga w ((w.alloc (.cells #[.pointer (some ⟨ga, 0, none⟩)] 120)).alloc (.cells #[.pointer (some ⟨1, 120, none⟩), .pointer (some ⟨w.heap.size, 0, none⟩), .int .u64 150] 138)) := hB2.mono (Nat.le_of_lt hgl)
  have HS := Aside0.mk (asF_calls x r c v (.iface 120 (.pointer (some ⟨ga, 0, none⟩))) old ga w.heap.size ((w.alloc (.cells #[.pointer (some ⟨ga, 0, none⟩)] 120)).alloc (.cells #[.pointer (some ⟨1, 120, none⟩), .pointer (some ⟨w.heap.size, 0, none⟩), .int .u64 150] 138)) (Chain.below hB2 hc) (blk_alloc (blk_new w _) _) (blk_alloc (blk_alloc ha _) _))
  have HB := Aside0.mk hbk
  have HKB := Aside0.mk (KeepBut.of_below hB2 ga none)
  obtain ⟨gv, uv, rfl, hbv, hrv⟩ := hc
  have HV := Aside0.mk (And.intro hbv hrv)
  clear ha hB1 hB2 hbk hbv hrv
  go_enter Tryd.func46, Tryd.ntmps46
  go_wp2_with (first | (go_at_call 82; refine HS.out.mono ?_; rintro e w' ⟨rfl, ⟨g, u, he, _, _, hq⟩, hB, hK⟩; cases he; have HQ := Aside0.mk (And.intro hq (And.intro (HB.out.trans hB) (HKB.out.trans hK (.inl rfl)))); clear hq hB hK))
  go_ret
  exact ⟨rfl, ⟨gv, uv, rfl, HV.out.1, HV.out.2, HQ.out.1⟩, HQ.out.2.1, HQ.out.2.2⟩
set_option maxRecDepth 100000 in
set_option maxHeartbeats 4000000 in
theorem AsF_none (c : Int) (ga : Nat) (old : Value) (w : World) (hg : Door w) (ha : w.heap[ga]? = some (.cells #[old] 117 (0, 0))) :
    Calls Tryd.prog 46 #[.iface 31 (.int .i64 c), .iface 120 (.pointer (some ⟨ga, 0, none⟩))] w fun e w' => e = .returned (.bool false) ∧ Below w.heap.size w w' := by
  have hvo := @run_callFunc_extern Tryd.prog 79 _ (fun args => ReflectliteValue.unpack (args.getD 0 (.tuple #[]))) Tryd.func79 (by kernel_rfl) (by kernel_rfl) (by kernel_rfl) (by kernel_rfl)
  have hty := @run_callFunc_extern Tryd.prog 80 _ ((ReflectliteValue.methodAny (ReflectliteValue.valueError "reflectlite.Value.Type" 0) (fun t _ _ _ => ReflectliteType.toType t))) Tryd.func80 (by kernel_rfl) (by kernel_rfl) (by kernel_rfl) (by kernel_rfl)
  have hni := @run_callFunc_extern Tryd.prog 81 _ ((ReflectliteValue.method (ReflectliteValue.valueError "reflectlite.Value.IsNil" 0) ReflectliteValue.isNil)) Tryd.func81 (by kernel_rfl) (by kernel_rfl) (by kernel_rfl) (by kernel_rfl)
  have hki := @run_callFunc_extern Tryd.prog 118 _ ((ReflectliteType.abiMethod fun t => do pure (.int .u8 (← Rtype.kind t)))) Tryd.func118 (by kernel_rfl) (by kernel_rfl) (by kernel_rfl) (by kernel_rfl)
  have hel := @run_callFunc_extern Tryd.prog 130 _ ((ReflectliteType.method ReflectliteType.elem)) Tryd.func130 (by kernel_rfl) (by kernel_rfl) (by kernel_rfl) (by kernel_rfl)
  have him := @run_callFunc_extern Tryd.prog 131 _ ((ReflectliteType.relation "Implements" ReflectliteType.implements_)) Tryd.func131 (by kernel_rfl) (by kernel_rfl) (by kernel_rfl) (by kernel_rfl)
  have lmethodKind := methodKind
  have lmethodElem := methodElem
  have lmethodImplements := methodImplements
  have lvalueOfTF := valueOfTF
  have ltypeTF := typeTF
  have lkindTF := kindTF
  have lkindEF := kindEF
  have lelemTF := elemTF
  have limplementsF := implementsF
  have hgl := blk_lt ha
  have hlt := Door.lt hg
  have hg2 : ((w.alloc (.cells #[.pointer (some ⟨ga, 0, none⟩)] 120)).alloc (.cells #[.pointer (some ⟨1, 120, none⟩), .pointer (some ⟨w.heap.size, 0, none⟩), .int .u64 150] 138)).cell? ⟨0, 0, none⟩ = some (.iface 163 (.agg #[.pointer (some ⟨1, 24, none⟩)])) := by
    rw [World.cell?_alloc_lt _ _ ⟨0, 0, none⟩ (by simp), World.cell?_alloc_lt _ _ ⟨0, 0, none⟩ hlt]; exact hg
  have n8 := isNilTF ⟨w.heap.size, 0, none⟩ ⟨ga, 0, none⟩ ((w.alloc (.cells #[.pointer (some ⟨ga, 0, none⟩)] 120)).alloc (.cells #[.pointer (some ⟨1, 120, none⟩), .pointer (some ⟨w.heap.size, 0, none⟩), .int .u64 150] 138)) (by rw [World.cell?_alloc_lt _ _ ⟨w.heap.size, 0, none⟩ (by simp)]; simp)
  have hB1 := below_alloc (Below.refl w.heap.size w) (.cells #[.pointer (some ⟨ga, 0, none⟩)] 120)
  have hB2 := below_alloc hB1 (.cells #[.pointer (some ⟨1, 120, none⟩), .pointer (some ⟨w.heap.size, 0, none⟩), .int .u64 150] 138)
  have hbk : Below ga w ((w.alloc (.cells #[.pointer (some ⟨ga, 0, none⟩)] 120)).alloc (.cells #[.pointer (some ⟨1, 120, none⟩), .pointer (some ⟨w.heap.size, 0, none⟩), .int .u64 150] 138)) := hB2.mono (Nat.le_of_lt hgl)
  have HS := Aside0.mk (asF_none c (.iface 120 (.pointer (some ⟨ga, 0, none⟩))) w.heap.size ((w.alloc (.cells #[.pointer (some ⟨ga, 0, none⟩)] 120)).alloc (.cells #[.pointer (some ⟨1, 120, none⟩), .pointer (some ⟨w.heap.size, 0, none⟩), .int .u64 150] 138)))
  have HB := Aside0.mk hB2
  clear ha hB1 hB2 hbk
  go_enter Tryd.func46, Tryd.ntmps46
  go_wp2_with (first | (go_at_call 82; refine HS.out.mono ?_; rintro e w' ⟨rfl, hB⟩; have HQ := Aside0.mk (below_step HB.out hB); clear hB))
  go_ret
  exact ⟨rfl, HQ.out⟩
set_option maxHeartbeats 1600000 in
theorem place_calls (x : ByteArray × Int) (r : List (ByteArray × Int)) (c : Int) (v : Value) (w : World) (hg : Door w) (hc : Chain w (x :: r) c v) : Calls Tryd.prog 30 #[v] w fun e w' => e = .returned (.int .i64 x.2) ∧ Below w.heap.size w w' := by
  have hB := below_alloc (Below.refl w.heap.size w) (.cells #[.pointer none] 117)
  have HS := Aside0.mk (AsF_calls x r c v (.pointer none) w.heap.size _ (hg.below hB) (Chain.below hB hc) (blk_new w _))
  obtain ⟨gv, uv, rfl, hbv, hrv⟩ := hc
  have HB := Aside0.mk hB
  have HV := Aside0.mk hbv
  clear hB hg hrv hbv
  go_enter Tryd.func30, Tryd.ntmps30
  go_wp2_with (first | (go_at_call 46; refine HS.out.mono ?_; rintro e w1 ⟨rfl, ⟨g, u, he, _, _, hq⟩, hB, _⟩; cases he; have q0 := (blk_cell hq 0).trans (rfl : _ = some (Value.pointer (some ⟨gv, 0, none⟩))); replace HB := Aside0.mk (HB.out.trans hB); have q1 := (blk_cell (blk_below HV.out HB.out) 1).trans (rfl : _ = some (Value.int .i64 x.2)); clear hq hB))
  go_ret
  exact ⟨rfl, HB.out⟩
end Go.Proofs.YtbplemhjhpfkgaaDoor.Ft

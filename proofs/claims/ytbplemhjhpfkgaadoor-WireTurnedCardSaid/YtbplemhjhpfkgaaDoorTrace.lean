/-
  fault.faults and fault.Trace: an error's faults, the outermost one first; their operations.
-/
import Derived.Test.YtbplemhjhpfkgaaDoorDoorTool
import Derived.Test.YtbplemhjhpfkgaaDoorFaultKind
namespace Go.Proofs.YtbplemhjhpfkgaaDoor.Cd
open Go.RowKit Go.Proofs.YtbplemhjhpfkgaaDoorW.PrintWords Go.Proofs.YtbplemhjhpfkgaaDoorW.PrintLast Go.Proofs.YtbplemhjhpfkgaaDoorW.PrintMore Go.Proofs.YtbplemhjhpfkgaaDoor.Rd
open Go.Proofs.YtbplemhjhpfkgaaDoor.Ft (Door Chain AsF_calls AsF_none)
set_option linter.unusedVariables false
set_option linter.unusedSimpArgs false
def kPt : Kd Nat := Kd.scalar (fun g : Nat => Value.pointer (some ⟨g, 0, none⟩)) (fun _ => rfl)
theorem infoPt : (Tryd.prog.info? 117).map (fun i => (i.zero, i.size, i.bytes)) = some (some (.pointer none), 1, 8) := by kernel_rfl
/-- The faults of a chain lie at these places. -/
def FAt (w : World) (gs : List Nat) (fs : List (ByteArray × Int)) : Prop :=
  gs.length = fs.length ∧ ∀ (i g : Nat) (x : ByteArray × Int), gs[i]? = some g → fs[i]? = some x → ∃ u : Value, w.heap[g]? = some (Obj.cells #[.string x.1, .int .i64 x.2, u] 119 (0, 0))
theorem Chain_keep {w w1 : World} {b : Nat} {cells : Array Value} (hk : KeepBut w w1 b none) (hb : w.heap[b]? = some (.cells cells 117 (0, 0))) : ∀ {fs : List (ByteArray × Int)} {c : Int} {v : Value}, Chain w fs c v → Chain w1 fs c v
  | [], _, _, hc => hc
  | x :: r, _, _, ⟨g, u, e, hg, hr⟩ => ⟨g, u, e, KeepBut.blk hk hg (by rintro rfl; rw [hb] at hg; simp at hg) (by simp), Chain_keep hk hb hr⟩
theorem R_ne2 {α : Type} {d : Kd α} {T t : TypeId} {w : World} {base g : Nat} {v : Value} {xs : List α} {cells : Array Value} (h : Kd.R d T w base (fun _ => True) v xs) (hb : w.heap[g]? = some (Obj.cells cells t (0, 0))) (ht : T ≠ t) : some g ≠ v.ownBlock := by
  obtain ⟨_, inner, ho, _⟩ := h
  exact own_ne ho hb ht
theorem R_apart2 {α : Type} {d : Kd α} {T : TypeId} {w w1 : World} {base g : Nat} {v : Value} {xs : List α} (h : Kd.R d T w base (fun _ => True) v xs) (hE : d.E = []) (hne : some g ≠ v.ownBlock) (hk : KeepBut w w1 g none) : Kd.R d T w1 base (fun _ => True) v xs :=
  Kd.R_mono (Kd.R_keep (Kd.R_far1 h hE hne) hk (fun k hk => hk.2)) (fun _ _ => trivial)
theorem FAt_keep {w w1 : World} {gs : List Nat} {fs : List (ByteArray × Int)} (h : FAt w gs fs) (hk : ∀ (k : Nat) (o : Obj), w.heap[k]? = some o → w1.heap[k]? = some o) : FAt w1 gs fs :=
  ⟨h.1, fun i g x hi hx => by obtain ⟨u, hu⟩ := h.2 i g x hi hx; exact ⟨u, hk _ _ hu⟩⟩
theorem FAt_type {w w1 : World} {gs : List Nat} {fs : List (ByteArray × Int)} {b : Nat} {cells : Array Value} (h : FAt w gs fs) (hb : w.heap[b]? = some (.cells cells 117 (0, 0))) (hk : KeepBut w w1 b none) : FAt w1 gs fs :=
  ⟨h.1, fun i g x hi hx => by obtain ⟨u, hu⟩ := h.2 i g x hi hx; exact ⟨u, KeepBut.blk hk hu (by rintro rfl; rw [hb] at hu; simp at hu) (by simp)⟩⟩
theorem FAt_grown {w w1 : World} {gs : List Nat} {fs : List (ByteArray × Int)} {base : Nat} {v : Value} {xs : List Nat} (h : FAt w gs fs) (hr : Kd.R kPt 117 w base (fun _ => True) v xs) (hg : w.grownBy w1 v.ownBlock) : FAt w1 gs fs :=
  ⟨h.1, fun i g x hi hx => by obtain ⟨u, hu⟩ := h.2 i g x hi hx; exact ⟨u, (hg.block _ (blk_lt hu) (R_ne2 hr hu (by decide))).trans hu⟩⟩
theorem Chain_grown {w w1 : World} {base : Nat} {vv : Value} {xs : List Nat} (hr : Kd.R kPt 117 w base (fun _ => True) vv xs) (hg : w.grownBy w1 vv.ownBlock) : ∀ {fs : List (ByteArray × Int)} {c : Int} {v : Value}, Chain w fs c v → Chain w1 fs c v
  | [], _, _, hc => hc
  | x :: r, _, _, ⟨g, u, e, hb, hc⟩ => ⟨g, u, e, (hg.block _ (blk_lt hb) (R_ne2 hr hb (by decide))).trans hb, Chain_grown hr hg hc⟩
theorem FAt_snoc {w : World} {gs : List Nat} {fs : List (ByteArray × Int)} {j g : Nat} {x : ByteArray × Int} {u : Value} (h : FAt w gs (fs.take j)) (hx : fs[j]? = some x) (hj : gs.length = j) (hg : w.heap[g]? = some (Obj.cells #[.string x.1, .int .i64 x.2, u] 119 (0, 0))) : FAt w (gs ++ [g]) (fs.take (j + 1)) := by
  obtain ⟨hl, rfl⟩ := List.getElem?_eq_some_iff.1 hx
  rw [List.take_succ_eq_append_getElem hl]
  refine ⟨by rw [List.length_append, List.length_append, h.1]; rfl, fun i g' x' hi hx' => ?_⟩
  have e1 : (fs.take j).length = j := by rw [List.length_take]; omega
  by_cases hij : i < j
  · rw [List.getElem?_append_left (by omega)] at hi hx'
    exact h.2 i g' x' hi hx'
  · rw [List.getElem?_append_right (by omega)] at hi hx'
    rw [hj] at hi
    rw [e1] at hx'
    rcases hk : i - j with _ | k
    · rw [hk] at hi hx'
      obtain rfl : g = g' := by simpa using hi
      obtain rfl : fs[j] = x' := by simpa using hx'
      exact ⟨u, hg⟩
    · rw [hk] at hi
      simp at hi
set_option maxRecDepth 100000 in
set_option maxHeartbeats 8000000 in
theorem faults_calls (fs : List (ByteArray × Int)) (c : Int) (v : Value) (w : World) (hg : Door w) (hc : Chain w fs c v) (hn : fs.length ≤ 1000) :
    Calls Tryd.prog 59 #[v] w fun e w' => ∃ (A : Option Addr) (cc : Nat) (gs : List Nat), e = .returned (.slice A gs.length cc) ∧ Kd.R kPt 117 w' w.heap.size (fun _ => True) (.slice A gs.length cc) gs ∧ FAt w' gs fs ∧ Below w.heap.size w w' := by
  have HG := Aside0.mk hg
  have HC := Aside0.mk hc
  have HC0 := Aside0.mk (Go.Proofs.YtbplemhjhpfkgaaDoor.Ft.Chain.below (below_alloc (Below.refl w.heap.size w) (.cells #[.pointer none] 117)) HC.out)
  have HF := Aside0.mk (blk_new w (.cells #[.pointer none] 117))
  have HW := Aside0.mk (below_alloc (Below.refl w.heap.size w) (.cells #[.pointer none] 117))
  clear hg hc
  go_enter Tryd.func59, Tryd.ntmps59
  go_upto_block 0 with fail
  generalize (w.alloc (.cells #[.pointer none] 117)) = wf at *
  go_cut [3] (fun v wx => ∃ (A : Option Addr) (cc : Nat) (gs : List Nat), v = .slice A gs.length cc ∧ Aside0 (Kd.R kPt 117 wx (w.heap.size + 1) (fun _ => True) (.slice A gs.length cc) gs) ∧ Aside0 (FAt wx gs fs) ∧ Aside0 (Below w.heap.size w wx))
  case first =>
    go_wp2_with fail
    go_loopw [0, 3] (fun ev v wr => ∃ (j : Nat) (A : Option Addr) (cc : Nat) (gs : List Nat) (old : Value), j ≤ fs.length ∧ v = .slice A gs.length cc ∧ gs.length = j ∧ Aside0 (Chain wr (fs.drop j) c ev) ∧ Aside0 (Kd.R kPt 117 wr (w.heap.size + 1) (fun _ => True) (.slice A gs.length cc) gs) ∧ Aside0 (FAt wr gs (fs.take j)) ∧ Aside0 (wr.heap[w.heap.size]? = some (Obj.cells #[old] 117 (0, 0))) ∧ Aside0 (Below w.heap.size w wr)) (fun _ v _ => match v with | .slice _ n _ => fs.length - n | _ => 0)
    case atStart => exact ⟨0, none, 0, [], .pointer none, Nat.zero_le _, rfl, rfl, HC0, ⟨Kd.R_nil _ _ _ _ _⟩, ⟨rfl, fun i g x h => by simp at h⟩, HF, HW⟩
    case round =>
      obtain ⟨j, A, cc, gs, old, hj, rfl, rfl, HCh, HO, HA, HFb, HWr⟩ := hrel
      have HGr := Aside0.mk (Go.Proofs.YtbplemhjhpfkgaaDoor.Ft.Door.below HG.out HWr.out)
      cases hd : fs.drop gs.length with
      | nil =>
        have hch := HCh.out
        rw [hd] at hch
        obtain rfl := hch
        have hjl : gs.length = fs.length := by have := List.length_drop (i := gs.length) (l := fs); rw [hd] at this; simp at this; omega
        have hta : fs.take gs.length = fs := by rw [hjl, List.take_length]
        rw [hta] at HA
        clear hd HCh hta hjl
        go_wp2_with (go_at_call 46; refine (AsF_none c w.heap.size old _ HGr.out HFb.out).mono ?_; rintro e w2 ⟨rfl, hB⟩; replace HWr := Aside0.mk (below_step HWr.out hB); replace HO := Aside0.mk (Kd.R_below HO.out hB); replace HA := Aside0.mk (FAt_keep HA.out (fun k o h => blk_below h hB)); clear hB)
        go_meet
        case rel => exact ⟨A, cc, gs, rfl, HO, HA, HWr⟩
      | cons x r =>
        have hch := HCh.out
        rw [hd] at hch
        have HCx := Aside0.mk hch
        have hjl : gs.length < fs.length := by have := List.length_drop (i := gs.length) (l := fs); rw [hd] at this; simp at this; omega
        have hxj : fs[gs.length]? = some x := by rw [List.getElem?_eq_getElem hjl]; have h2 := List.drop_eq_getElem_cons hjl; rw [hd] at h2; injection h2 with h3 h4; rw [h3]
        have hdr : fs.drop (gs.length + 1) = r := by have h2 := List.drop_eq_getElem_cons hjl; rw [hd] at h2; injection h2 with h3 h4; exact h4.symm
        have HXJ := Lib.hid hxj
        have HDR := Lib.hid hdr
        have HNE := Aside0.mk (show some w.heap.size ≠ (Value.slice A gs.length cc).ownBlock from fun e_ => absurd (Kd.R_base HO.out _ e_.symm) (by omega))
        have hgl : gs.length ≤ 1000 := by omega
        clear hd HCh hch hxj hdr
        go_upto_region 4 with (go_at_call 46; refine (AsF_calls x r c _ old w.heap.size _ HGr.out HCx.out HFb.out).mono ?_; rintro e w2 ⟨rfl, ⟨g, u, rfl, hgx, hr, hq⟩, hB, hK⟩; have HK := Aside0.mk hK; have HGx := Aside0.mk (KeepBut.blk hK hgx (by rintro rfl; rw [HFb.out] at hgx; simp at hgx) (by simp)); have HCr := Aside0.mk (Chain_keep hK HFb.out hr); have HQ := Aside0.mk hq; replace HWr := Aside0.mk (HWr.out.trans hB); replace HO := Aside0.mk (R_apart2 HO.out rfl HNE.out hK); replace HA := Aside0.mk (FAt_type HA.out HFb.out hK); clear hgx hr hq hB hK)
        have q0 := (blk_cell HQ.out 0).trans (rfl : _ = some (Value.pointer (some ⟨g, 0, none⟩)))
        have hsz := HWr.out.size
        have hqs := blk_lt HQ.out
        go_upto_region 5 with ((with_reducible refine gate_builtin (b := .append) (xs := #[.tmp 8, .tmp 10]) rfl ?_); at_builtin; refine Kd.R_append (kPt) (w0 := w2) (w.heap.size + 1) rfl (.tmp 8) (.tmp 10) 115 117 (.pointer none) 8 rfl Tryd.underlying115 infoPt rfl (by decide) (by omega) (.slice A gs.length cc) (gs) (g) [.pointer (some ⟨g, 0, none⟩)] (fun _ => True) (fun _ => False) rfl ?aX ?aP (fun _ hk => hk.elim) ?aF ?aO ?aB ?aS ?aL ?_; (case aX => first | rfl | (simp [Act.eval]; done)); (case aP => exact rfl); (case aB => exact (by repeat (with_reducible first | exact Below.refl _ _ | apply below_alloc | apply pw_below_drewN | apply below_drew1))); (case aF => exact (fun _ _ => trivial)); (case aO => exact (by (with_reducible repeat (first | apply Kd.R_alloc | apply Kd.R_drewN | apply Kd.R_drew)); exact HO.out)); (case aS => exact Nat.le_trans ((show w.heap.size + 1 ≤ w2.heap.size by omega)) (below_size (by repeat (with_reducible first | exact Below.refl _ _ | apply below_alloc | apply pw_below_drewN | apply below_drew1)))); (case aL => omega); intro v1 w1 ho hb hg hat; obtain ⟨A1, c1, rfl⟩ := Kd.R_slice ho; have HO3 := Aside0.mk ho; have HQ3 := Aside0.mk ((hg.block _ (blk_lt HQ.out) HNE.out).trans HQ.out); have HGx3 := Aside0.mk ((hg.block _ (blk_lt HGx.out) (R_ne2 HO.out HGx.out (by decide))).trans HGx.out); have HW3 := Aside0.mk (below_weaken HWr.out (Nat.le_succ _) hb); have HA3 := Aside0.mk (FAt_grown HA.out HO.out hg); have HCr3 := Aside0.mk (Chain_grown HO.out hg HCr.out); clear ho hb hg hat q0)
        have q0 := (blk_cell HQ3.out 0).trans (rfl : _ = some (Value.pointer (some ⟨g, 0, none⟩)))
        have q2 := (blk_cell HGx3.out 2).trans (rfl : _ = some u)
        go_wp2
        go_roundw
        case rel => exact ⟨gs.length + 1, A1, c1, gs ++ [g], .pointer (some ⟨g, 0, none⟩), hjl, by simp, by simp, ⟨by rw [HDR.out]; exact HCr3.out⟩, HO3, ⟨FAt_snoc HA3.out HXJ.out rfl HGx3.out⟩, HQ3, HW3⟩
        case measure => simp; omega
  case rest =>
    obtain ⟨A, cc, gs, rfl, HO, HA, HWx⟩ := hcut
    go_wp2
    go_ret
    exact ⟨A, cc, gs, rfl, Kd.R_lower HO.out (Nat.le_succ _), HA.out, HWx.out⟩
theorem pt_cell {w : World} {base g n c j : Nat} {a : Addr} {xs : List Nat} (h : Kd.R kPt 117 w base (fun _ => True) (.slice (some a) n c) xs) (hx : xs[j]? = some g) : w.cell? (a.add j) = some (.pointer (some ⟨g, 0, none⟩)) := by
  obtain ⟨hn, _, hC⟩ := Kd.R_reads' h
  have hj : j < xs.length := (List.getElem?_eq_some_iff.1 hx).1
  obtain ⟨ad, e, hc⟩ := hC.2.2 (by omega)
  obtain rfl : _ = ad := Option.some.inj e
  obtain ⟨cs, _, hr, hcell⟩ := hc j g hx
  have hr' : cs = [.pointer (some ⟨g, 0, none⟩)] := hr
  subst hr'
  have h0 := hcell 0 _ rfl
  simpa [Addr.add, kPt, Kd.scalar] using h0
def kTs : Kd ByteArray := Kd.scalar Value.string (fun _ => rfl)
theorem infoTs : (Tryd.prog.info? 9).map (fun i => (i.zero, i.size, i.bytes)) = some (some (.string ByteArray.empty), 1, 16) := by kernel_rfl
theorem FAt_below {w w1 : World} {gs : List Nat} {fs : List (ByteArray × Int)} (h : FAt w gs fs) (hb : Below w.heap.size w w1) : FAt w1 gs fs :=
  FAt_keep h (fun k o hk => blk_below hk hb)
set_option maxRecDepth 100000 in
set_option maxHeartbeats 8000000 in
theorem Trace_calls (fs : List (ByteArray × Int)) (c : Int) (v : Value) (w : World) (hg : Door w) (hc : Chain w fs c v) (hn : fs.length ≤ 1000) :
    Calls Tryd.prog 27 #[v] w fun e w' => ∃ (A : Option Addr) (cc : Nat), e = .returned (.slice A fs.length cc) ∧ Kd.R kTs 9 w' w.heap.size (fun _ => True) (.slice A fs.length cc) (fs.map (·.1)) ∧ Below w.heap.size w w' := by
  have HG := Aside0.mk hg
  have HC := Aside0.mk hc
  clear hg hc
  go_enter Tryd.func27, Tryd.ntmps27
  go_upto_block 0 with (go_at_call 59; refine (faults_calls fs c v _ HG.out HC.out hn).mono ?_; rintro e w0 ⟨A0, c0, gs, rfl, ho, ha, hb⟩; have HO0 := Aside0.mk ho; have HA0 := Aside0.mk ha; have HW0 := Aside0.mk hb; clear ho ha hb)
  obtain ⟨hgl, -, -⟩ := Kd.R_reads' HO0.out
  have hgf := HA0.out.1
  have hws := HW0.out.size
  go_wp2_with fail
  go_loopw [3, 9] (fun v iv wr => ∃ (j : Nat) (A : Option Addr) (cc : Nat) (ss : List ByteArray), j ≤ fs.length ∧ iv = .int .i64 j ∧ v = .slice A ss.length cc ∧ ss = (fs.take j).map (·.1) ∧ Aside0 (Kd.R kTs 9 wr w0.heap.size (fun _ => True) (.slice A ss.length cc) ss) ∧ Aside0 (Below w0.heap.size w0 wr)) (fun _ iv _ => match iv with | .int _ n => (fs.length - n).toNat | _ => 0)
  case atStart => exact ⟨0, none, 0, [], Nat.zero_le _, rfl, rfl, rfl, ⟨Kd.R_nil _ _ _ _ _⟩, ⟨Below.refl _ _⟩⟩
  case round =>
    obtain ⟨j, A, cc, ss, hj, rfl, rfl, hss, HO, HWr⟩ := hrel
    have hsl : ss.length = j := by rw [hss]; simp; omega
    by_cases hjl : j < fs.length
    · obtain ⟨g0, hg0, -⟩ := (Kd.R_reads' HO0.out).2.2.2.2 (by omega)
      subst hg0
      have HPt := Aside0.mk (Kd.R_below HO0.out HWr.out)
      have hgj : gs[j]? = some gs[j] := List.getElem?_eq_getElem (by omega)
      have hfj : fs[j]? = some fs[j] := List.getElem?_eq_getElem (by omega)
      obtain ⟨u, hu⟩ := (FAt_keep HA0.out (fun k o h => blk_below h HWr.out)).2 j _ _ hgj hfj
      have q0 := pt_cell HPt.out hgj
      have HU := Aside0.mk hu
      have q1 := (blk_cell hu 0).trans (rfl : _ = some (Value.string fs[j].1))
      clear hu
      go_upto_region 5 with fail
      go_upto_region 6 with ((with_reducible refine gate_builtin (b := .append) (xs := #[.tmp 13, .tmp 18]) rfl ?_); at_builtin; refine Kd.R_append (kTs) (w0 := w0) (w0.heap.size) rfl (.tmp 13) (.tmp 18) 62 9 (.string ByteArray.empty) 16 rfl Tryd.underlying62 infoTs rfl (by decide) (by omega) (.slice A ss.length cc) (ss) (fs[j].1) [.string fs[j].1] (fun _ => True) (fun _ => False) rfl ?aX ?aP (fun _ hk => hk.elim) ?aF ?aO ?aB ?aS ?aL ?_; (case aX => first | rfl | (simp [Act.eval]; done)); (case aP => exact rfl); (case aB => exact (by repeat (with_reducible first | exact HWr.out | apply below_alloc | apply pw_below_drewN | apply below_drew1))); (case aF => exact (fun _ _ => trivial)); (case aO => exact (by (with_reducible repeat (first | apply Kd.R_alloc | apply Kd.R_drewN | apply Kd.R_drew)); exact HO.out)); (case aS => exact (below_size (by repeat (with_reducible first | exact HWr.out | apply below_alloc | apply pw_below_drewN | apply below_drew1)))); (case aL => omega); intro v1 w1 ho hb hg hat; obtain ⟨A1, c1, rfl⟩ := Kd.R_slice ho; have HO3 := Aside0.mk ho; have HW3 := Aside0.mk hb; clear ho hb hg hat q0 q1)
      go_wp2
      go_roundw
      case rel => exact ⟨j + 1, A1, c1, ss ++ [fs[j].1], hjl, rfl, by simp [hsl], by rw [List.take_succ_eq_append_getElem hjl, List.map_append, ← hss]; rfl, HO3, HW3⟩
      case measure => simp; omega
    · obtain rfl : j = fs.length := by omega
      go_wp2
      go_ret
      exact ⟨A, cc, by rw [hsl]; rfl, by have := HO.out; rw [hss, List.take_length] at this; rw [← hsl, hss, List.take_length]; exact Kd.R_lower this hws, below_weaken HW0.out hws HWr.out⟩
end Go.Proofs.YtbplemhjhpfkgaaDoor.Cd

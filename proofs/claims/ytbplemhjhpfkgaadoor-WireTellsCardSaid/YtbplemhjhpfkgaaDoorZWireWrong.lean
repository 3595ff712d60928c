/-
 wire.Encode of a message that is not right: no bytes, an error of one fault.
-/
import Derived.Test.YtbplemhjhpfkgaaDoorZWireRight
import Derived.Test.YtbplemhjhpfkgaaDoorZFaultKind
namespace Go.Proofs.YtbplemhjhpfkgaaDoor.Wr
open Go.RowKit YtbplemhjhpfkgaaDoorW.PrintWords YtbplemhjhpfkgaaDoorW.PrintLast YtbplemhjhpfkgaaDoorW.PrintMore Rd
open Go.Proofs.YtbplemhjhpfkgaaDoor.Cd (Co At kCo kAt at_Co at_At)
open Go.Proofs.YtbplemhjhpfkgaaDoor.Ft (Door Chain new_chain kind_calls chain_iface)
set_option linter.unusedVariables false
set_option linter.unusedSimpArgs false
abbrev wireS : ByteArray := ⟨#[119, 105, 114, 101]⟩
set_option maxRecDepth 100000 in
set_option maxHeartbeats 4000000 in
theorem enc_wrong (m : MsgD) (A5 : Option Addr) (m5 : Nat) (A6 : Option Addr) (m6 : Nat) (w : World) (h : LiesM w m A5 A6) (hs : SmM m) (hr : rightM m = false) :
  Calls Tryd.prog 21 #[mW m A5 m5 A6 m6] w fun e w' => ∃ u, e = .returned (.tuple #[.slice none 0 0, u]) ∧ Chain w' [(wireS, 0)] 1 u ∧ Below w.heap.size w w' := by
 have HR := Lib.hid hr; have HL := sd h; have HS := sd hs; clear h hs hr; obtain ⟨k, tc, ts, ic, is, p, s⟩ := m; have HX := sd (blk_new w (.cells #[.int .i64 k, .int .i64 tc, .int .i64 ts, .int .i64 ic, .int .i64 is, .slice A5 p.length m5, .slice A6 s.length m6] 50)); have HB := sd (below_alloc (Below.refl w.heap.size w) (.cells #[.int .i64 k, .int .i64 tc, .int .i64 ts, .int .i64 ic, .int .i64 is, .slice A5 p.length m5, .slice A6 s.length m6] 50))
 go_enter Tryd.func21, Tryd.ntmps21
 go_wp2_with (first | (go_at_call 25; refine (right_calls ⟨k, tc, ts, ic, is, p, s⟩ _ _ _ _ _ (LiesM.below HL.out HB.out) HS.out).mono ?_; rintro e w1 ⟨he, hB⟩; rw [HR.out] at he; subst he; replace HB := sd (below_step HB.out hB); clear hB) | (go_at_call 44; refine (new_chain (fs := []) (c := 1) rfl).mono ?_; rintro e w2 ⟨u, rfl, hc, hB⟩; have HC := sd hc; replace HB := sd (below_step HB.out hB); clear hB hc)); go_ret2; exact ⟨u, rfl, HC.out, HB.out⟩
end Go.Proofs.YtbplemhjhpfkgaaDoor.Wr

/-
  NumBack returns true, whatever the numbers, texts, ID, byte and cut.
-/
import Derived.Test.YtnljhdfmhhmdkaaRows
import Derived.Test.YtnljhdfmhhmdkaaNumBack
import Derived.WalkKit
import Derived.ProofKit
import Derived.OpenShut
import Derived.ShutString
import Derived.ChangeOld
import Derived.Below
import Derived.SizedLaws
import Derived.Lib.SmallJoins
namespace Go.Proofs.Ytnljhdfmhhmdkaa.Rd
open Go.RowKit Go.Proofs.YtnljhdfmhhmdkaaW.PrintWords Go.Proofs.YtnljhdfmhhmdkaaW.PrintLast Go.Proofs.YtnljhdfmhhmdkaaW.PrintMore
theorem back_row (n m : Int) (s t : ByteArray) (xc xs c cut_ : Int) (w : World) (hn : (Lit.int .i64 n).wf = true) (hm : (Lit.int .i64 m).wf = true) (hs : s.size ≤ 140737488351232) (ht : t.size ≤ 140737488351232) (hx : (Lit.int .i64 xc).wf = true) (hy : (Lit.int .i64 xs).wf = true) (hc : (Lit.int .u8 c).wf = true) (_hk : (Lit.int .i64 cut_).wf = true) :
    Calls Try.prog 7 #[.int .i64 n, .int .i64 m, .string s, .string t, .agg #[.int .i64 xc, .int .i64 xs], .int .u8 c, .int .i64 cut_] w fun e w' => e = .returned (.bool true) ∧ Below w.heap.size w w' :=
  back_calls n m s t xc xs c cut_ w (bounds_i64 hn) (bounds_i64 hm) (bounds_i64 hx) (bounds_i64 hy) (by have := bounds_u8 hc; omega) hs ht
end Go.Proofs.Ytnljhdfmhhmdkaa.Rd
namespace Go.Proofs.Ytnljhdfmhhmdkaa.numBack
open Go.ChangeShapes Go.WideShapes Go.ChangeAt Go.RowKit
open Go.ChangeMaps (open_string shut_string)
set_option linter.unusedVariables false
theorem own : ownKnob Try.prog.godebug = none := by kernel_rfl
set_option maxRecDepth 100000 in
theorem lifted (os : Os) (started : os.Started) (H : Type) (enc : TypeId × Value → H) :
    ReturnsInHanded {} Try.checked os 7 .any (Rows.numBackSpec.pre6 enc Try.prog Try.f7 Rows.numBackRow.domain false) (Rows.numBackSpec.post enc Try.prog Try.f7 false true false false) := by
  refine returnsInHanded_of_change_sized (C := Try.checked) own started (by kernel_rfl) Try.func7
    (ChangeSpec.witness6 (enc := enc) (C := Try.checked) false ⟨#[], #[.int .i64 0, .int .i64 0, .string ByteArray.empty, .string ByteArray.empty, .agg #[.int .i64 0, .int .i64 0], .int .u8 0, .int .i64 0], []⟩ 8 (by kernel_rfl) (by kernel_rfl) (by kernel_rfl) (by kernel_rfl)) ?_
  intro W base args ds gs before hval0 hW hcnd hsz0 _
  have hsz : (DataW.weightsEach Try.prog (Try.f7.params.toList ++ Rows.numBackSpec.plain.varTypes Try.prog) (ds ++ gs)).all (· ≤ reachBytes) = true := hsz0
  have hval : ∀ (j : Nat) t v, Try.f7.params[j]? = some t → args[j]? = some v → Value.okWide Try.prog W .any base t v := hval0
  have hW' := hW
  obtain ⟨p, q, hA0, hV, rfl, hfz, hnd⟩ := hW
  have hA : DataW.TrodAll enc Try.prog W 0 (fun _ => true) true Try.f7.params.toList args.toList ds p := hA0
  rw [Try.params7] at hA hval hsz
  obtain ⟨v0, vs0, d0, ds0, p0, q0, hargs, rfl, rfl, h0, r0⟩ := trodAll_cons hA
  obtain ⟨v1, vs1, d1, ds1, p1, q1, rfl, rfl, rfl, h1, r1⟩ := trodAll_cons r0
  obtain ⟨v2, vs2, d2, ds2, p2, q2, rfl, rfl, rfl, h2, r2⟩ := trodAll_cons r1
  obtain ⟨v3, vs3, d3, ds3, p3, q3, rfl, rfl, rfl, h3, r3⟩ := trodAll_cons r2
  obtain ⟨v4, vs4, d4, ds4, p4, q4, rfl, rfl, rfl, h4, r4⟩ := trodAll_cons r3
  obtain ⟨v5, vs5, d5, ds5, p5, q5, rfl, rfl, rfl, h5, r5⟩ := trodAll_cons r4
  obtain ⟨v6, vs6, d6, ds6, p6, q6, rfl, rfl, rfl, h6, r6⟩ := trodAll_cons r5
  obtain ⟨rfl, rfl, rfl⟩ := trodAll_nil r6
  obtain rfl : args = #[v0, v1, v2, v3, v4, v5, v6] := by cases args; simp_all
  obtain ⟨rfl, rfl⟩ := trodVars_none hV
  obtain ⟨a0, rfl, rfl, rfl, w0⟩ := open_int Try.underlying3 (hval 0 3 v0 rfl rfl) h0
  obtain ⟨a1, rfl, rfl, rfl, w1⟩ := open_int Try.underlying3 (hval 1 3 v1 rfl rfl) h1
  obtain ⟨a2, rfl, rfl, rfl, y2⟩ := open_string Try.underlying9 (hval 2 9 v2 rfl rfl) h2
  have w2 : a2.size ≤ 140737488351232 := by
    have z := sized_string hsz (j := 2) (t := 9) rfl rfl
    rw [Array.length_toList] at z
    exact z
  obtain ⟨a3, rfl, rfl, rfl, y3⟩ := open_string Try.underlying9 (hval 3 9 v3 rfl rfl) h3
  have w3 : a3.size ≤ 140737488351232 := by
    have z := sized_string hsz (j := 3) (t := 9) rfl rfl
    rw [Array.length_toList] at z
    exact z
  obtain ⟨c4, b4, y4, x4, m4, rfl, rfl, rfl, hy4, hx4⟩ := Joins.open_agg2 Try.underlying42 (by kernel_rfl) (by kernel_rfl) (hval 4 42 v4 rfl rfl) h4
  obtain ⟨a4, e4, rfl, w4⟩ := DataW.trod_int Try.underlying3 hy4
  obtain ⟨b4, f4, rfl, u4⟩ := DataW.trod_int Try.underlying3 hx4
  simp at e4 f4
  subst e4 f4
  have sr4 : ∀ (W' : World) (sp : Nat → Bool), DataW.Trod enc Try.prog W' 0 sp true 42 (.agg #[.int .i64 a4, .int .i64 b4]) (.agg [.lit (.int .i64 a4), .lit (.int .i64 b4)]) [] := fun W' sp => Joins.shut_agg2 (y0 := (.lit (.int .i64 a4), [])) (y1 := (.lit (.int .i64 b4), [])) Try.underlying42 (by kernel_rfl) (by kernel_rfl) ⟨1, by simp [DataW.trod, Try.underlying3, w4]⟩ ⟨1, by simp [DataW.trod, Try.underlying3, u4]⟩
  obtain ⟨a5, rfl, rfl, rfl, w5⟩ := open_int Try.underlying5 (hval 5 5 v5 rfl rfl) h5
  obtain ⟨a6, rfl, rfl, rfl, w6⟩ := open_int Try.underlying3 (hval 6 3 v6 rfl rfl) h6
  clear hA0 hval0 hsz0 hsz
  refine (Go.Proofs.Ytnljhdfmhhmdkaa.Rd.back_row a0 a1 a2 a3 a4 b4 a5 a6 W w0 w1 w2 w3 w4 u4 w5 w6).mono fun e W' ⟨he, bel⟩ => ?_
  subst he
  exact ⟨_, rfl, _, _, _, [], _, [], hW', trodAll_mk1 (shut_bool Try.underlying4 _), (trodAll_cons_mk (shut_int Try.underlying3 w0) (trodAll_cons_mk (shut_int Try.underlying3 w1) (trodAll_cons_mk (shut_string Try.underlying9 y2) (trodAll_cons_mk (shut_string Try.underlying9 y3) (trodAll_cons_mk (sr4 _ _) (trodAll_cons_mk (shut_int Try.underlying5 w5) (trodAll_cons_mk (shut_int Try.underlying3 w6) trodAll_mk0))))))), rfl, bel.frame _, fun h => by cases h⟩
theorem over : Rows.numBackRow.holds Try.pinned (OpenSpec.ofChange Rows.numBackSpec) :=
  OpenClaim.holds_of_wide 7 Try.f7 rfl rfl rfl rfl rfl rfl rfl ⟨rfl, rfl, rfl, rfl, rfl⟩ rfl rfl rfl rfl rfl (by kernel_rfl) Try.func7 (by kernel_rfl)
    (of_decide_eq_true (by kernel_rfl)) (by unfold Func.isWrapper; first | (rw [if_pos (by decide +kernel)]; kernel_rfl) | (rw [if_neg (by decide +kernel)]; exact ⟨rfl, rfl⟩))
    (fun os started H enc _ => lifted os started H enc)
theorem proved : Rows.NumBackSaid := over
#print axioms proved
end Go.Proofs.Ytnljhdfmhhmdkaa.numBack
namespace Go.Proofs.Ytnljhdfmhhmdkaa
/-- The row, under a short name, for the claim. -/
theorem numBack_holds : Rows.NumBackSaid := numBack.proved
end Go.Proofs.Ytnljhdfmhhmdkaa


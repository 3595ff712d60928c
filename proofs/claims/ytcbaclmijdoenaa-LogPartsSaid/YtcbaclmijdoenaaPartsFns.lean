/-
  Tools for LogParts: Same of two equal rows of links, masks, and the plain facts on rows in two parts.
-/
import Derived.Test.YtcbaclmijdoenaaLogTool
namespace Go.Proofs.Ytcbaclmijdoenaa.Lg
open Go.RowKit Go.ChangeShapes Go.Proofs.YtcbaclmijdoenaaW.PrintWords Go.Proofs.YtcbaclmijdoenaaW.PrintLast Go.Proofs.YtcbaclmijdoenaaW.PrintMore
set_option linter.unusedVariables false
set_option linter.unusedSimpArgs false

theorem i64_and3 (n : Int) : bits .and .i64 n 3 = n % 4 := by
  have h3 : (BitVec.ofInt 64 3).toNat = 2 ^ 2 - 1 := by decide
  have key : (BitVec.ofInt 64 n &&& BitVec.ofInt 64 3).toNat = (n % ((2 ^ 64 : Nat) : Int)).toNat % 2 ^ 2 := by
    rw [BitVec.toNat_and, BitVec.toNat_ofInt, h3, Nat.and_two_pow_sub_one_eq_mod]
  show IntKind.i64.wrap ((BitVec.ofInt 64 n &&& BitVec.ofInt 64 3).toNat : Nat) = n % 4
  rw [key, IntKind.wrap_i64]
  omega
theorem i64_and7 (n : Int) : bits .and .i64 n 7 = n % 8 := by
  have h3 : (BitVec.ofInt 64 7).toNat = 2 ^ 3 - 1 := by decide
  have key : (BitVec.ofInt 64 n &&& BitVec.ofInt 64 7).toNat = (n % ((2 ^ 64 : Nat) : Int)).toNat % 2 ^ 3 := by
    rw [BitVec.toNat_and, BitVec.toNat_ofInt, h3, Nat.and_two_pow_sub_one_eq_mod]
  show IntKind.i64.wrap ((BitVec.ofInt 64 n &&& BitVec.ofInt 64 7).toNat : Nat) = n % 8
  rw [key, IntKind.wrap_i64]
  omega

theorem size_int (w : World) : (sizeOf 3).run Try.prog w = .ok 1 w := by kernel_rfl
theorem part_pr0 (a b : Int) (w : World) : (part 3 #[.int .i64 a, .int .i64 b] 0).run Try.prog w = .ok (.int .i64 a) w := by kernel_rfl
theorem part_pr1 (a b : Int) (w : World) : (part 3 #[.int .i64 a, .int .i64 b] 1).run Try.prog w = .ok (.int .i64 b) w := by kernel_rfl
theorem eqA_pr (a b : Int) (d : Nat) (w : World) : (Op.equalIn (d + 1 + 1) 46 (.agg #[.int .i64 a, .int .i64 b]) (.agg #[.int .i64 a, .int .i64 b])).run Try.prog w = .ok true w := by
  have e1 : ∀ x : Int, (Op.equalIn (d + 1) 3 (.int .i64 x) (.int .i64 x)).run Try.prog w = .ok true w := fun x => by rw [run_equalIn_int w d _ .i64 .i64 x x Try.underlying3]; simp
  rw [Op.equalIn]
  simp only [Sem.run_bind, run_underlying Try.underlying46, Result.andThen_ok, size_int]
  have hr : List.range' 0 2 1 = [0, 1] := rfl
  simp [Std.Legacy.Range.forIn_eq_forIn_range', Std.Legacy.Range.size, hr, part_pr0, part_pr1, e1, Result.andThen]
theorem neq_pr (a b : Int) (w : World) : (binOp .neq 46 (.agg #[.int .i64 a, .int .i64 b]) (.agg #[.int .i64 a, .int .i64 b])).run Try.prog w = .ok (.bool false) w := by
  rw [run_neq_struct, eqA_pr a b 9998 w]
  rfl
theorem guard_pr : Try.prog.eqGuardType Try.prog.depth 46 = false := by kernel_rfl

set_option maxHeartbeats 1600000 in
theorem same_pr (A : Option Addr) (c : Nat) (xs : List Pr) (B : Option Addr) (d : Nat) (w : World) (hx : Kd.C kPr w A xs.length xs) (hy : Kd.C kPr w B xs.length xs) :
    Calls Try.prog 13 #[.slice A xs.length c, .slice B xs.length d] w fun e w' => e = .returned (.bool true) ∧ Drawn0 w w' := by
  have HX := Aside0.mk hx
  have HY := Aside0.mk hy
  have hmx : xs.length ≤ 9223372036854775807 := hx.2.1
  clear hx hy
  go_enter Try.func13, Try.ntmps13
  go_wp2
  go_loopw [5] (fun i wr => ∃ k : Nat, k ≤ xs.length ∧ i = .int .i64 k ∧ Drawn0 w wr) (fun i _ => xs.length - (intOf i).toNat)
  case atStart => exact ⟨0, Nat.zero_le _, rfl, Drawn0.refl _⟩
  case round =>
    obtain ⟨k, hk, rfl, ⟨m, rfl⟩⟩ := hrel
    by_cases hlt : k < xs.length
    · obtain ⟨ad, x, rfl, hx, c0, c1⟩ := at_Pr HX.out k hlt
      obtain ⟨bd, y, rfl, hy, d0, d1⟩ := at_Pr HY.out k hlt
      obtain rfl : x = y := by rw [hx] at hy; exact Option.some.inj hy
      clear hx hy
      have g0 := guard_pr
      have g1 := fun W => neq_pr x.1 x.2 W
      go_wp2
      repeat (go_quiet (fail); try go_wp2)
      go_roundw
      case rel => exact ⟨k + 1, by omega, by go_num, by repeat (first | exact Drawn0.refl _ | apply Drawn0.step)⟩
      case measure => simp [intOf]; omega
    · obtain rfl : k = xs.length := by omega
      go_wp2
      go_ret
      exact ⟨rfl, by repeat (first | exact Drawn0.refl _ | apply Drawn0.step)⟩

theorem pinfoDl : (Try.prog.info? 39).map (fun i => (i.zero, i.size, i.bytes)) = some (some (.agg #[.int .i64 0, .int .i64 0, .int .i64 0, .slice none 0 0]), 4, 48) := by kernel_rfl
theorem pdl_cr : ∀ q, q ∈ 39 :: kDl.E → q ≠ 25 := by
  intro q hq
  have hq1 : q ∈ [39] := hq
  simp at hq1
  omega
theorem pcr_dl : ∀ q, q ∈ 25 :: kCr.E → q ≠ 39 := by
  intro q hq
  have hq1 : q ∈ [25] := hq
  simp at hq1
  omega
/-- A row appended, with where it lies then. -/
theorem cat_step_at {P : Program} {ops : Array Oper} {o : Oper} {a : Act} {Q : Exit → Act → World → Prop} {Kc : Act → World → Prop} {α : Type} (d : Kd α) (hf : ∀ W base ok x cs, d.K W x cs → d.M W base ok x cs) (w0 W : World) (base : Nat) (hw : Region.wanted o (yielded ops a.tmps) = true) (s x : Operand) (t e : TypeId) (z : Value) (bytes : Nat)
    (ho : o.op = .call { callee := .builtin .append, args := #[s, x], argTypes := #[t, t] })
    (ht : P.underlying t = some (.slice e)) (hinfo : (P.info? e).map (fun i => (i.zero, i.size, i.bytes)) = some (some z, d.sz, bytes)) (hz : z.cells.size = d.sz) (hs0 : 0 < d.sz) (hb0 : 0 < bytes)
    (v : Value) (xs ys : List α) (A : Option Addr) (m c : Nat) (hs : a.eval s = v) (hx : a.eval x = .slice A m c)
    (HO : d.R e W base (fun _ => True) v xs) (HR : d.C W A m ys) (HB : Below base w0 W) (hbase : base ≤ W.heap.size) (hl : (xs.length + m) * bytes ≤ 140737488355328)
    (h : ∀ v1 w1, d.R e w1 base (fun _ => True) v1 (xs ++ ys) → Below base w0 w1 → W.grownBy w1 v.ownBlock → (v1.ownBlock = v.ownBlock ∨ ∃ b, v1.ownBlock = some b ∧ W.heap.size ≤ b) → Kc (a.put o.dst v1) w1) :
    if Region.wanted o (yielded ops a.tmps) = true then Oper.wp P o a W Kc Q else Kc (a.put o.dst undef) W :=
  Kd.R_append_rows_step d base hw s x t e z bytes ho ht hinfo hz hs0 hb0 v xs ys A m c (fun _ => True) (fun _ => False) hs hx HO HR (fun x cs h => hf _ _ _ _ _ h) (fun _ h => h.elim) (fun _ _ => trivial) HB hbase hl h

/-! ### Rows in two parts -/
def Pc (cs : List Cr) : Prop := ∀ x ∈ cs, CrOk x ∧ 0 ≤ x.2.2.1 ∧ x.2.2.1 < 4 ∧ x.2.2.2 = 0
def Pd (ds : List Dl) : Prop := ∀ x ∈ ds, GtOk (gt x) ∧ x.2.1 = 0 ∧ 0 ≤ x.2.2.1 ∧ x.2.2.1 < 4
theorem pc_nil : Pc [] := fun x h => by cases h
theorem pd_nil : Pd [] := fun x h => by cases h
theorem pc_snoc {cs : List Cr} (h : Pc cs) {x : Cr} (hx : CrOk x ∧ 0 ≤ x.2.2.1 ∧ x.2.2.1 < 4 ∧ x.2.2.2 = 0) : Pc (cs ++ [x]) := fun y hy => by
  rcases List.mem_append.1 hy with hy | hy
  · exact h y hy
  · rw [List.mem_singleton.1 hy]; exact hx
theorem pd_snoc {ds : List Dl} (h : Pd ds) {x : Dl} (hx : GtOk (gt x) ∧ x.2.1 = 0 ∧ 0 ≤ x.2.2.1 ∧ x.2.2.1 < 4) : Pd (ds ++ [x]) := fun y hy => by
  rcases List.mem_append.1 hy with hy | hy
  · exact h y hy
  · rw [List.mem_singleton.1 hy]; exact hx
theorem pc_crok {cs : List Cr} (h : Pc cs) : ∀ x ∈ cs, CrOk x := fun x hx => (h x hx).1
theorem pd_gtok {ds : List Dl} (h : Pd ds) : ∀ x ∈ ds, GtOk (gt x) := fun x hx => (h x hx).1
theorem toL_append (xs ys : List Dl) (p : Int × Int) : toL (xs ++ ys) p = toL xs p ++ toL ys p := by simp [toL, List.filter_append]
/-- How many of the first j publications. -/
def sumC (cs : List Cr) : Nat → Nat
  | 0 => 0
  | j + 1 => sumC cs j + (ofL cs ((j : Int), 0)).length
def sumD (ds : List Dl) : Nat → Nat
  | 0 => 0
  | j + 1 => sumD ds j + (toL ds (0, (j : Int))).length
theorem sumC_eq (cs : List Cr) (h : Pc cs) : ∀ j : Nat, sumC cs j = (cs.filter fun x => decide (x.2.2.1 < (j : Int))).length
  | 0 => by
    have : (cs.filter fun x => decide (x.2.2.1 < ((0 : Nat) : Int))) = [] := by
      rw [List.filter_eq_nil_iff]
      intro x hx
      have := h x hx
      simp
      omega
    rw [this]
    rfl
  | j + 1 => by
    rw [sumC, sumC_eq cs h j]
    clear sumC_eq
    induction cs with
    | nil => rfl
    | cons x l ih =>
      have hx := h x (by simp)
      have ih := ih (fun y hy => h y (List.mem_cons_of_mem _ hy))
      obtain ⟨a, b, c, d⟩ := x
      simp only at hx
      obtain ⟨-, h0, h1, rfl⟩ := hx
      unfold ofL at ih ⊢
      simp only [List.filter_cons, List.length_map, Prod.mk.injEq] at ih ⊢
      by_cases h2 : c < (j : Int)
      · have h3 : c < ((j + 1 : Nat) : Int) := by omega
        have h4 : ¬ c = (j : Int) := by omega
        simp only [h2, h3, h4, decide_true, decide_false, false_and, if_true, List.length_cons, Bool.false_eq_true, if_false]
        omega
      · by_cases h4 : c = (j : Int)
        · have h3 : c < ((j + 1 : Nat) : Int) := by omega
          simp only [h2, h3, h4, decide_true, decide_false, and_self, if_true, List.length_cons, Bool.false_eq_true, if_false] at ih ⊢
          simp only [h4] at h3
          simp only [h3, decide_true, if_true, List.length_cons, Int.lt_irrefl, decide_false, Bool.false_eq_true, if_false]
          omega
        · have h3 : ¬ c < ((j + 1 : Nat) : Int) := by omega
          simp only [h2, h3, h4, decide_false, false_and, Bool.false_eq_true, if_false]
          omega
theorem sumD_eq (ds : List Dl) (h : Pd ds) : ∀ j : Nat, sumD ds j = (ds.filter fun x => decide (x.2.2.1 < (j : Int))).length
  | 0 => by
    have : (ds.filter fun x => decide (x.2.2.1 < ((0 : Nat) : Int))) = [] := by
      rw [List.filter_eq_nil_iff]
      intro x hx
      have := h x hx
      simp
      omega
    rw [this]
    rfl
  | j + 1 => by
    rw [sumD, sumD_eq ds h j]
    clear sumD_eq
    induction ds with
    | nil => rfl
    | cons x l ih =>
      have hx := h x (by simp)
      have ih := ih (fun y hy => h y (List.mem_cons_of_mem _ hy))
      obtain ⟨a, b, c, d⟩ := x
      simp only at hx
      obtain ⟨-, rfl, h0, h1⟩ := hx
      unfold toL at ih ⊢
      simp only [List.filter_cons, List.length_map, Prod.mk.injEq] at ih ⊢
      by_cases h2 : c < (j : Int)
      · have h3 : c < ((j + 1 : Nat) : Int) := by omega
        have h4 : ¬ c = (j : Int) := by omega
        simp only [h2, h3, h4, decide_true, decide_false, and_false, if_true, List.length_cons, Bool.false_eq_true, if_false]
        omega
      · by_cases h4 : c = (j : Int)
        · have h3 : c < ((j + 1 : Nat) : Int) := by omega
          simp only [h2, h3, h4, decide_true, decide_false, and_self, if_true, List.length_cons, Bool.false_eq_true, if_false] at ih ⊢
          simp only [h4] at h3
          simp only [h3, decide_true, if_true, List.length_cons, Int.lt_irrefl, decide_false, Bool.false_eq_true, if_false]
          omega
        · have h3 : ¬ c < ((j + 1 : Nat) : Int) := by omega
          simp only [h2, h3, h4, decide_false, and_false, Bool.false_eq_true, if_false]
          omega
theorem sumC_all {cs : List Cr} (h : Pc cs) : sumC cs 4 = cs.length := by
  rw [sumC_eq cs h, List.filter_eq_self.2]
  intro x hx
  have := h x hx
  simp
  omega
theorem sumD_all {ds : List Dl} (h : Pd ds) : sumD ds 4 = ds.length := by
  rw [sumD_eq ds h, List.filter_eq_self.2]
  intro x hx
  have := h x hx
  simp
  omega
theorem sumC_le (cs : List Cr) (h : Pc cs) (j : Nat) : sumC cs j ≤ cs.length := by rw [sumC_eq cs h]; exact List.length_filter_le _ _
theorem sumD_le (ds : List Dl) (h : Pd ds) (j : Nat) : sumD ds j ≤ ds.length := by rw [sumD_eq ds h]; exact List.length_filter_le _ _
section
variable {tk dr cs : List Cr}
theorem nodup_turn (h : cs = tk ++ dr) : decide (dr ++ tk).Nodup = decide cs.Nodup := by
  subst h
  rw [decide_eq_decide]
  simp only [List.nodup_append]
  constructor <;> (rintro ⟨h1, h2, h3⟩; exact ⟨h2, h1, fun a ha b hb e => h3 b hb a ha e.symm⟩)
theorem oneway_turn (h : cs = tk ++ dr) : decide (OneWay (dr ++ tk)) = decide (OneWay cs) := by
  subst h
  rw [decide_eq_decide]
  unfold OneWay
  constructor <;> (intro h x hx hr; refine h x ?_ ?_ <;> (rw [List.mem_append] at *; exact (by assumption : _ ∨ _).symm))
theorem nodup_parts (h : cs = tk ++ dr) (hn : cs.Nodup) : tk.Nodup ∧ dr.Nodup := by
  subst h
  rw [List.nodup_append] at hn
  exact ⟨hn.1, hn.2.1⟩
theorem oneway_parts (h : cs = tk ++ dr) (hn : OneWay cs) : OneWay tk ∧ OneWay dr := by
  subst h
  exact ⟨fun x hx hr => hn x (by simp [hx]) (by simp [hr]), fun x hx hr => hn x (by simp [hx]) (by simp [hr])⟩
theorem ofL_parts (h : cs = tk ++ dr) (p : Int × Int) : ofL cs p = ofL tk p ++ ofL dr p := by rw [h, ofL_append]
end
theorem single_parts {ds : List Dl} (k : Nat) (hn : (ds.map gt).Nodup) : ((ds.drop k).map gt).Nodup := by
  rw [List.map_drop]
  exact hn.sublist (List.drop_sublist _ _)
end Go.Proofs.Ytcbaclmijdoenaa.Lg

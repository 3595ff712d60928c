/-
  Tools for the laws of layer 17: Within, rows appended to rows, the plain facts on crossings that make a tree.
-/
import Derived.Test.YtcbaclmijdoenaaLogRuns
namespace Go.Proofs.Ytcbaclmijdoenaa.Lg
open Go.RowKit Go.ChangeShapes Go.Proofs.YtcbaclmijdoenaaW.PrintWords Go.Proofs.YtcbaclmijdoenaaW.PrintLast Go.Proofs.YtcbaclmijdoenaaW.PrintMore
set_option linter.unusedVariables false
set_option linter.unusedSimpArgs false

/-- A number brought into lo .. hi. -/
def within (n lo hi : Int) : Int := lo + n % (hi - lo + 1)
theorem within_bd (n lo hi : Int) (h : lo ≤ hi) : lo ≤ within n lo hi ∧ within n lo hi ≤ hi := by
  have h1 := Int.emod_nonneg n (show hi - lo + 1 ≠ 0 by omega)
  have h2 := Int.emod_lt_of_pos n (show 0 < hi - lo + 1 by omega)
  unfold within
  omega
theorem tmod_parts (n m : Int) (hm : 0 < m) : (0 ≤ Int.tmod n m → Int.tmod n m = n % m) ∧ (Int.tmod n m < 0 → Int.tmod n m + m = n % m) ∧ - m < Int.tmod n m ∧ Int.tmod n m < m := by
  have h1 := Int.emod_nonneg n (show m ≠ 0 by omega)
  have h2 := Int.emod_lt_of_pos n hm
  have h3 := Int.tmod_eq_emod (a := n) (b := m)
  split at h3 <;> omega
set_option maxHeartbeats 800000 in
theorem within_calls (n lo hi : Int) (w : World) (hl : -1000000000000000000 ≤ lo) (hh : lo ≤ hi) (hb : hi ≤ 1000000000000000000) :
    Calls Try.prog 11 #[.int .i64 n, .int .i64 lo, .int .i64 hi] w fun e w' => e = .returned (.int .i64 (within n lo hi)) ∧ w = w' := by
  obtain ⟨h1, h2, h3, h4⟩ := tmod_parts n (hi - lo + 1) (by omega)
  have hz : ((hi - lo + 1) == 0) = false := by simp; omega
  have hz1 : hi - lo + 1 ≠ 0 := by omega
  have hpos : 0 < hi - lo + 1 := by omega
  by_cases hneg : Int.tmod n (hi - lo + 1) < 0
  · have HE : Hid (within n lo hi = lo + (Int.tmod n (hi - lo + 1) + hi - lo + 1)) := by unfold within; rw [← h2 hneg]; exact Lib.hid (by omega)
    clear h1 h2
    go_enter Try.func11, Try.ntmps11
    go_wp2
    go_ret
    rw [HE.out]
    exact ⟨rfl, rfl⟩
  · have HE : Hid (within n lo hi = lo + Int.tmod n (hi - lo + 1)) := by unfold within; rw [← h1 (by omega)]; exact Lib.hid rfl
    clear h1 h2
    go_enter Try.func11, Try.ntmps11
    go_wp2
    go_ret
    rw [HE.out]
    exact ⟨rfl, rfl⟩

theorem nums_at {w : World} {A : Option Addr} {n : Nat} {xs : List Int} (h : Kd.C (Kd.int .i64) w A n xs) (i : Nat) (hi : i < n) : ∃ ad, A = some ad ∧ w.cell? (ad.add i) = some (.int .i64 (xs.getD i 0)) := by
  obtain ⟨ad, e, hc⟩ := Kd.at_int h (i : Int) (by omega) (by omega)
  exact ⟨ad, e, by simpa [rd] using hc⟩


/-! ### A row appended to a row of the call's own -/
theorem infoCr : (Try.prog.info? 25).map (fun i => (i.zero, i.size, i.bytes)) = some (some (.agg #[.int .i64 0, .int .i64 0, .int .i64 0, .int .i64 0]), 4, 32) := by kernel_rfl
theorem cat_step {P : Program} {ops : Array Oper} {o : Oper} {a : Act} {Q : Exit → Act → World → Prop} {Kc : Act → World → Prop} {α : Type} (d : Kd α) (hf : ∀ W base ok x cs, d.K W x cs → d.M W base ok x cs) (w0 W : World) (base : Nat) (hw : Region.wanted o (yielded ops a.tmps) = true) (s x : Operand) (t e : TypeId) (z : Value) (bytes : Nat)
    (ho : o.op = .call { callee := .builtin .append, args := #[s, x], argTypes := #[t, t] })
    (ht : P.underlying t = some (.slice e)) (hinfo : (P.info? e).map (fun i => (i.zero, i.size, i.bytes)) = some (some z, d.sz, bytes)) (hz : z.cells.size = d.sz) (hs0 : 0 < d.sz) (hb0 : 0 < bytes)
    (v : Value) (xs ys : List α) (A : Option Addr) (m c : Nat) (hs : a.eval s = v) (hx : a.eval x = .slice A m c)
    (HO : d.R e W base (fun _ => True) v xs) (HR : d.C W A m ys) (HB : Below base w0 W) (hbase : base ≤ W.heap.size) (hl : (xs.length + m) * bytes ≤ 140737488355328)
    (h : ∀ v1 w1, d.R e w1 base (fun _ => True) v1 (xs ++ ys) → Below base w0 w1 → W.grownBy w1 v.ownBlock → Kc (a.put o.dst v1) w1) :
    if Region.wanted o (yielded ops a.tmps) = true then Oper.wp P o a W Kc Q else Kc (a.put o.dst undef) W :=
  Kd.R_append_rows_step d base hw s x t e z bytes ho ht hinfo hz hs0 hb0 v xs ys A m c (fun _ => True) (fun _ => False) hs hx HO HR (fun x cs h => hf _ _ _ _ _ h) (fun _ h => h.elim) (fun _ _ => trivial) HB hbase hl (fun v1 w1 h1 h2 h3 _ => h v1 w1 h1 h2 h3)
theorem flatKM {α : Type} {n : Nat} {enc : α → List Value} {hl : ∀ x, (enc x).length = n} {h1 : ∀ x u, u ∈ enc x → u.oneCell' = true} : ∀ W base ok x cs, (flat n enc hl h1).K W x cs → (flat n enc hl h1).M W base ok x cs := fun _ _ _ _ _ h => h

/-! ### Crossings that make a tree -/
/-- The senders: the root, then those that were reached. -/
def ins (r : Int) (k : Nat) : List Int := r :: (List.range k).map (fun j : Nat => 10 + (j : Int))
theorem ins_len (r : Int) (k : Nat) : (ins r k).length = k + 1 := by simp [ins]
theorem ins_snoc (r : Int) (k : Nat) : ins r (k + 1) = ins r k ++ [10 + (k : Int)] := by simp [ins, List.range_succ]
theorem ins_get (r : Int) (k d : Nat) (h : d ≤ k) : (ins r k).getD d 0 = r ∨ (10 ≤ (ins r k).getD d 0 ∧ (ins r k).getD d 0 < 10 + k) := by
  cases d with
  | zero => left; rfl
  | succ j =>
    right
    have hj : j < k := by omega
    simp [ins, List.getD_eq_getElem?_getD, List.getElem?_range hj]
    omega
def Tr (r : Int) (cs : List Cr) : Prop := ∀ (j : Nat) (x : Cr), cs[j]? = some x → x.2.1 = 10 + (j : Int) ∧ x.2.2 = (3, 0) ∧ (x.1 = r ∨ (10 ≤ x.1 ∧ x.1 < 10 + (j : Int)))
theorem tr_nil (r : Int) : Tr r [] := fun j x h => by simp at h
theorem tr_snoc {r f : Int} {cs : List Cr} (h : Tr r cs) (hf : f = r ∨ (10 ≤ f ∧ f < 10 + (cs.length : Int))) : Tr r (cs ++ [(f, 10 + (cs.length : Int), 3, 0)]) := by
  intro j x hj
  by_cases hl : j < cs.length
  · rw [List.getElem?_append_left hl] at hj
    exact h j x hj
  · rw [List.getElem?_append_right (by omega)] at hj
    have h0 : j - cs.length = 0 := by
      have := (List.getElem?_eq_some_iff.1 hj).1
      simp at this
      omega
    rw [h0] at hj
    simp at hj
    subst hj
    have : j = cs.length := by omega
    subst this
    exact ⟨rfl, rfl, hf⟩
theorem tr_ok {r : Int} {cs : List Cr} (h : Tr r cs) (hr : 0 ≤ r ∧ r ≤ 9) (hk : cs.length ≤ 1000) : ∀ x ∈ cs, CrOk x := by
  intro x hx
  obtain ⟨j, hj, he⟩ := List.getElem_of_mem hx
  obtain ⟨h1, h2, h3⟩ := h j x (by rw [List.getElem?_eq_getElem hj, he])
  obtain ⟨a, b, c, d⟩ := x
  simp only [Prod.mk.injEq] at h1 h2 h3
  obtain ⟨rfl, rfl⟩ := h2
  subst h1
  exact crOk (by omega)
theorem tr_ofL {r : Int} {cs : List Cr} (h : Tr r cs) : ofL cs (3, 0) = cs.map fun x => (x.1, x.2.1) := by
  unfold ofL
  rw [List.filter_eq_self.2]
  intro x hx
  obtain ⟨j, hj, he⟩ := List.getElem_of_mem hx
  exact decide_eq_true (h j x (by rw [List.getElem?_eq_getElem hj, he])).2.1
theorem tree_up {r : Int} (hr : 0 ≤ r ∧ r ≤ 9) : ∀ (cs : List Cr) (S : List Int) (k : Nat), (∀ (j : Nat) (x : Cr), cs[j]? = some x → x.2.1 = 10 + (k : Int) + j ∧ (x.1 = r ∨ (10 ≤ x.1 ∧ x.1 < 10 + (k : Int) + j))) → (∀ y, y ∈ S ↔ y = r ∨ (10 ≤ y ∧ y < 10 + (k : Int))) → treeL S (cs.map fun x => (x.1, x.2.1)) = true
  | [], S, k, _, _ => rfl
  | x :: cs, S, k, h, hS => by
    obtain ⟨h1, h2⟩ := h 0 x rfl
    rw [List.map_cons, treeL_cons, if_pos]
    · refine tree_up hr cs _ (k + 1) (fun j y hy => ?_) (fun y => ?_)
      · have := h (j + 1) y (by simpa using hy)
        omega
      · rw [List.mem_cons, hS]
        omega
    · simp only [hS]
      omega
theorem tr_tree {r : Int} {cs : List Cr} (h : Tr r cs) (hr : 0 ≤ r ∧ r ≤ 9) : treeL [r] (ofL cs (3, 0)) = true := by
  rw [tr_ofL h]
  refine tree_up hr cs [r] 0 (fun j x hj => ?_) (fun y => ?_)
  · have := h j x hj
    omega
  · simp; omega
theorem treeL_bad (x : Pr) : ∀ (ls : List Pr) (S : List Int), (x.2 ∈ S ∨ ∃ y ∈ ls, y.2 = x.2) → treeL S (ls ++ [x]) = false
  | [], S, h => by
    rw [List.nil_append, treeL_cons, if_neg]
    rcases h with h | ⟨y, hy, _⟩
    · exact fun h2 => h2.2 h
    · simp at hy
  | y :: ls, S, h => by
    rw [List.cons_append, treeL_cons]
    split
    · refine treeL_bad x ls _ ?_
      rcases h with h | ⟨z, hz, he⟩
      · exact .inl (List.mem_cons_of_mem _ h)
      · rcases List.mem_cons.1 hz with rfl | hz
        · exact .inl (by rw [he]; exact List.mem_cons_self)
        · exact .inr ⟨z, hz, he⟩
    · rfl
theorem ofL_append (xs ys : List Cr) (p : Int × Int) : ofL (xs ++ ys) p = ofL xs p ++ ofL ys p := by simp [ofL, List.filter_append]
theorem tr_nodup {r : Int} {cs : List Cr} (h : Tr r cs) : cs.Nodup := by
  unfold List.Nodup
  rw [List.pairwise_iff_getElem]
  intro i j hi hj hij he
  have h1 := (h i _ (List.getElem?_eq_getElem hi)).1
  have h2 := (h j _ (List.getElem?_eq_getElem hj)).1
  rw [he] at h1
  omega
theorem tr_oneway {r : Int} {cs : List Cr} (h : Tr r cs) (hr : 0 ≤ r ∧ r ≤ 9) : OneWay cs := by
  intro x hx hy
  obtain ⟨i, hi, he⟩ := List.getElem_of_mem hx
  obtain ⟨j, hj, hf⟩ := List.getElem_of_mem hy
  have h1 := h i x (by rw [List.getElem?_eq_getElem hi, he])
  have h2 := h j (rev x) (by rw [List.getElem?_eq_getElem hj, hf])
  simp only [rev] at h2
  omega
/-- The first crossing. -/
theorem tr_first {r : Int} {x : Cr} {cs : List Cr} (h : Tr r (x :: cs)) : x = (r, 10, 3, 0) := by
  obtain ⟨h1, h2, h3⟩ := h 0 x rfl
  obtain ⟨a, b, c, d⟩ := x
  simp only [Prod.mk.injEq] at h1 h2 h3
  obtain ⟨rfl, rfl⟩ := h2
  have : a = r := by omega
  subst this
  simp only [Prod.mk.injEq, and_true, true_and]
  omega
theorem tr_twice {r : Int} {x : Cr} {cs : List Cr} (h : Tr r (x :: cs)) (hr : 0 ≤ r ∧ r ≤ 9) : treeL [r] (ofL (x :: cs ++ [x]) (3, 0)) = false ∧ decide (x :: cs ++ [x]).Nodup = false := by
  have hx := tr_first h
  refine ⟨?_, ?_⟩
  · rw [ofL_append, show ofL [x] (3, 0) = [(x.1, x.2.1)] by subst hx; rfl]
    refine treeL_bad _ _ _ (.inr ⟨(x.1, x.2.1), ?_, rfl⟩)
    rw [tr_ofL h]
    simp
  · rw [decide_eq_false_iff_not]
    intro hn
    rw [List.nodup_append] at hn
    exact hn.2.2 x (by simp) x (by simp) rfl
theorem tr_back {r : Int} {x : Cr} {cs : List Cr} (h : Tr r (x :: cs)) (hr : 0 ≤ r ∧ r ≤ 9) : treeL [r] (ofL (x :: cs ++ [(x.2.1, x.1, 3, 0)]) (3, 0)) = false ∧ decide (OneWay (x :: cs ++ [(x.2.1, x.1, 3, 0)])) = false := by
  have hx := tr_first h
  refine ⟨?_, ?_⟩
  · rw [ofL_append, show ofL [(x.2.1, x.1, 3, 0)] (3, 0) = [(x.2.1, x.1)] by rfl]
    refine treeL_bad _ _ _ (.inl ?_)
    subst hx
    simp
  · rw [decide_eq_false_iff_not]
    intro hn
    refine hn x (by simp) ?_
    subst hx
    simp [rev]
theorem tr_other {r : Int} {cs : List Cr} (h : Tr r cs) (s : Int) : treeL [s] (ofL cs (0, 0)) = true := by
  have : ofL cs (0, 0) = [] := by
    unfold ofL
    rw [List.map_eq_nil_iff, List.filter_eq_nil_iff]
    intro x hx
    obtain ⟨j, hj, he⟩ := List.getElem_of_mem hx
    rw [(h j x (by rw [List.getElem?_eq_getElem hj, he])).2.1]
    decide
  rw [this]
  rfl
end Go.Proofs.Ytcbaclmijdoenaa.Lg

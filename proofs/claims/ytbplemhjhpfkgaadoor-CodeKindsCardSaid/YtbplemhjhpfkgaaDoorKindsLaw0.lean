/-
  The plain law of CodeKinds: an operation with what its kind asks is right; its bytes' length.
-/
import Derived.Test.YtbplemhjhpfkgaaDoorKindsPure
import Derived.Test.YtbplemhjhpfkgaaDoorCodeEnc
namespace Go.Proofs.YtbplemhjhpfkgaaDoor.Cd
open Go.RowKit Go.Proofs.YtbplemhjhpfkgaaDoorW.PrintWords Go.Proofs.YtbplemhjhpfkgaaDoorW.PrintLast Go.Proofs.YtbplemhjhpfkgaaDoorW.PrintMore Go.Proofs.YtbplemhjhpfkgaaDoor.Rd
set_option linter.unusedVariables false
set_option linter.unusedSimpArgs false
structure Fit (o : OpD) : Prop where
  k : 1 ≤ o.k ∧ o.k ≤ 9
  p : o.p.length ≤ 5 ∧ o.p.all okC = true
  s : o.s.length ≤ 5 ∧ o.s.all okA = true
  r : o.r.length ≤ 255
theorem Fit.right {o : OpD} (h : Fit o) : rightD (askd o) = true := by
  obtain ⟨k, c, q, hh, a, t, p, s, r⟩ := o
  obtain ⟨⟨k0, k1⟩, ⟨p0, p1⟩, ⟨s0, s1⟩, r0⟩ := h
  simp only at k0 k1 p0 p1 s0 s1 r0
  obtain rfl | rfl | rfl | rfl | rfl | rfl | rfl | rfl | rfl : k = 1 ∨ k = 2 ∨ k = 3 ∨ k = 4 ∨ k = 5 ∨ k = 6 ∨ k = 7 ∨ k = 8 ∨ k = 9 := by omega
  all_goals (simp [askd, rightD, known, sameD, p1, s1]; try omega)
theorem Fit.ops {o : OpD} (h : Fit o) : sameD o (askd o) = rightD o := by
  have e1 : sameD o (askd o) = sameD (askd o) o := by simp only [sameD, decide_eq_decide]; exact eq_comm
  have e2 : known o.k = true := by simp only [known, decide_eq_true_iff]; exact h.k
  have e3 : decide (o.p.length ≤ 200 ∧ o.s.length ≤ 200 ∧ o.r.length ≤ 255) = true := by
    have := h.p.1; have := h.s.1; have := h.r
    simp only [decide_eq_true_iff]; omega
  rw [e1]
  unfold rightD
  rw [e2, e3, h.p.2, h.s.2]
  simp
theorem askd_k (o : OpD) : (askd o).k = o.k := by unfold askd; repeat (first | rfl | split)
def oB (o : OpD) : List Int := opB o.k o.c o.q o.h o.a o.t o.p o.s o.r
theorem t8_len (r : List Int) (h : r.length ≤ 255) : (text8 (strOfNums r)).length = 1 + r.length := by
  have e : (strOfNums r).size = r.length := by
    show (strOfNums r).data.size = r.length
    simp [strOfNums]
  have e2 : (strOfNums r).data.toList.length = r.length := by rw [← e]; exact Array.length_toList
  unfold text8
  rw [if_neg (by omega), List.length_cons]
  have e3 : (bytesOf (strOfNums r)).length = r.length := by unfold bytesOf; rw [List.length_map]; exact e2
  omega
theorem askd_r (o : OpD) (h : o.r.length ≤ 255) : (askd o).r.length ≤ 255 := by
  unfold askd
  repeat (first | exact h | exact Nat.zero_le _ | split)
theorem oB_len {o : OpD} (h : Fit o) : 44 ≤ (oB (askd o)).length := by
  unfold oB opB
  simp only [List.length_append, be8s_len, List.length_cons, List.length_nil, t8_len _ (askd_r o h.r)]
  omega
theorem oB_nine {o : OpD} (h : Fit o) (h9 : o.k = 9) : (oB (askd o)).length = 44 + o.r.length := by
  have e : askd o = ⟨o.k, 0, 0, 0, o.a, o.t, [], [], o.r⟩ := by simp [askd, h9]
  rw [e]
  unfold oB opB
  simp only [List.length_append, be8s_len, List.length_cons, List.length_nil, List.flatMap_nil, t8_len _ h.r]
  omega
theorem oB_head (o : OpD) (h : Fit o) : (oB (askd o))[0]? = some o.k := by
  have hk := h.k
  unfold oB opB
  rw [askd_k]
  simp [List.append_assoc]
  omega
end Go.Proofs.YtbplemhjhpfkgaaDoor.Cd

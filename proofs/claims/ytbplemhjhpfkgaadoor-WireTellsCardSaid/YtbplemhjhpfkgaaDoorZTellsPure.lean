/-
 What WireTells' own answer needs of messages and their bytes.
-/
import Derived.Test.YtbplemhjhpfkgaaDoorZWireBack
import Derived.Test.YtbplemhjhpfkgaaDoorZWireSame
import Derived.Test.YtbplemhjhpfkgaaDoorZRefMsg
import Derived.Test.YtbplemhjhpfkgaaDoorZWireWrong
import Derived.Test.YtbplemhjhpfkgaaDoorZWireDecode
import Derived.Test.YtbplemhjhpfkgaaDoorZWireRuns
import Derived.Test.YtbplemhjhpfkgaaDoorZRefBytes
import Derived.Test.YtbplemhjhpfkgaaDoorZMTame
import Derived.Test.YtbplemhjhpfkgaaDoorZOpenMsg
namespace Go.Proofs.YtbplemhjhpfkgaaDoor.Wr
open Go.RowKit YtbplemhjhpfkgaaDoorW.PrintWords YtbplemhjhpfkgaaDoorW.PrintLast YtbplemhjhpfkgaaDoorW.PrintMore Rd
open Go.Proofs.YtbplemhjhpfkgaaDoor.Cd (Co At kCo kAt at_Co at_At)
set_option linter.unusedVariables false
set_option linter.unusedSimpArgs false
theorem sm_tame {m : MsgD} (h : SmM m) : SmM (tameM m) := ⟨fun x hx => h.p x (List.mem_of_mem_take hx), fun x hx => h.s x (List.mem_of_mem_take hx)⟩
theorem wf_tame {m : MsgD} (h : WfM m) : WfM (tameM m) := ⟨h.ts, h.is, fun x hx => h.p x (List.mem_of_mem_take hx), fun x hx => h.s x (List.mem_of_mem_take hx)⟩
theorem co_short {x : Co} (h : oneOk x = true) : x.1.size ≤ 12 ∧ x.2.2.2.2.size ≤ 12 := by
 obtain ⟨n, k, lo, hi, t⟩ := x; unfold oneOk at h; rw [Bool.and_eq_true] at h; refine ⟨name_size h.1, ?_⟩; have h2 := h.2; clear h
 show t.size ≤ 12
 split at h2
 ·rw [Bool.and_eq_true] at h2; obtain rfl := empty_of h2.2
  show (0 : Nat) ≤ 12
  decide
 ·split at h2
  ·simp only [Bool.and_eq_true, decide_eq_true_iff] at h2; omega
  ·split at h2
   ·simp only [Bool.and_eq_true, decide_eq_true_iff] at h2; omega
   ·cases h2
theorem at_short {x : At} (h : (nameOk x.1 && valOk x.2.1 x.2.2.1 x.2.2.2) = true) : x.1.size ≤ 12 ∧ x.2.2.2.size ≤ 12 := by
 obtain ⟨n, b, k, t⟩ := x; rw [Bool.and_eq_true] at h; refine ⟨name_size h.1, ?_⟩; have h2 := h.2; clear h
 show t.size ≤ 12
 unfold valOk at h2
 split at h2
 ·simp only [Bool.and_eq_true, decide_eq_true_iff] at h2; omega
 ·obtain rfl := empty_of h2
  show (0 : Nat) ≤ 12
  decide
theorem sh_right {m : MsgD} (h : rightM m = true) : ShM m :=
 ⟨fun x hx => by have := co_short (pred_each (isRight h).p x hx); omega, fun x hx => by have := at_short (tup_each (isRight h).s x hx); omega⟩
theorem text8_short {s : ByteArray} (h : s.size ≤ 12) : (text8 s).length ≤ 13 := by
 unfold text8; rw [if_neg (by omega)]; simp only [List.length_cons, bytesOf_length]; omega
theorem cW_short {x : Co} (h : oneOk x = true) : (cW x).length ≤ 30 := by
 obtain ⟨h1, h2⟩ := co_short h; have a := text8_short h1; have b := text8_short h2; unfold cW
 split
 ·simp only [List.length_append, List.length_cons, List.length_nil, be8s_len]; omega
 ·simp only [List.length_append, List.length_cons, List.length_nil]; omega
theorem aW_short {x : At} (h : (nameOk x.1 && valOk x.2.1 x.2.2.1 x.2.2.2) = true) : (aW x).length ≤ 30 := by
 obtain ⟨h1, h2⟩ := at_short h; have a := text8_short h1; have b := text8_short h2; unfold aW
 split
 ·simp only [List.length_append, List.length_cons, List.length_nil]; omega
 ·simp only [List.length_append, List.length_cons, List.length_nil, be8s_len]; omega
theorem flat_short {α : Type} (f : α → List Int) (n : Nat) : ∀ l : List α, (∀ x ∈ l, (f x).length ≤ n) → (l.flatMap f).length ≤ n * l.length
 | [], _ => by simp
 | x :: l, h => by
  have h1 := flat_short f n l (fun y hy => h y (List.mem_cons_of_mem _ hy)); have h2 := h x (List.mem_cons_self ..); simp only [List.flatMap_cons, List.length_append, List.length_cons, Nat.mul_add, Nat.mul_one]; omega
theorem five_p {m : MsgD} (h : rightM m = true) : m.p.length ≤ 5 ∧ m.s.length ≤ 5 := by
 have hp := (isRight h).p; have hs := (isRight h).s; simp only [predOk, tupOk, Bool.and_eq_true, decide_eq_true_iff] at hp hs; omega
theorem msgB_600 {m : MsgD} (h : rightM m = true) : (msgB m).length ≤ 600 := by
 obtain ⟨h5, h6⟩ := five_p h; have hp := flat_short cW 30 m.p (fun x hx => cW_short (pred_each (isRight h).p x hx)); have hs := flat_short aW 30 m.s (fun x hx => aW_short (tup_each (isRight h).s x hx)); have hi := iB_le m.k m.ic m.is
 have hpb : (pB m.k m.p).length ≤ 151 := by
  unfold pB
  split
  ·rw [List.length_append, List.length_singleton]; omega
  ·simp
 have hsb : (sB m.k m.s).length ≤ 151 := by
  unfold sB
  split
  ·rw [List.length_append, List.length_singleton]; omega
  ·simp
 unfold msgB; simp only [List.length_append, be8s_len, List.length_cons, List.length_nil]; omega
theorem same_dec {m n : MsgD} (h1 : rightM m = true) (w1 : WfM m) (h2 : rightM n = true) (w2 : WfM n) : decide (msgB m = msgB n) = sameM m n := by
 unfold sameM; rw [Bool.eq_iff_iff, decide_eq_true_iff, decide_eq_true_iff]; exact ⟨fun h => msgB_inj h1 w1 h2 w2 h, fun h => by rw [h]⟩
theorem same_self (m : MsgD) : sameM m m = true := decide_eq_true rfl
end Go.Proofs.YtbplemhjhpfkgaaDoor.Wr

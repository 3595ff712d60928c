/-
  CodeBack: what is plain about it.
-/
import Derived.Test.YtbplemhjhpfkgaaDoorTame
import Derived.Test.YtbplemhjhpfkgaaDoorBookSame
import Derived.Test.YtbplemhjhpfkgaaDoorOpenOp
namespace Go.Proofs.YtbplemhjhpfkgaaDoor.Cd
open Go.RowKit Go.Proofs.YtbplemhjhpfkgaaDoorW.PrintWords Go.Proofs.YtbplemhjhpfkgaaDoorW.PrintLast Go.Proofs.YtbplemhjhpfkgaaDoorW.PrintMore Go.Proofs.YtbplemhjhpfkgaaDoor.Rd
set_option linter.unusedVariables false
set_option linter.unusedSimpArgs false
/-- Short lists, short texts. -/
structure Small (o : OpD) : Prop where
  p : o.p.length ≤ 5
  s : o.s.length ≤ 5
  r : o.r.length ≤ 20
  pt : ∀ x ∈ o.p, x.1.size ≤ 20 ∧ x.2.2.2.2.size ≤ 20
  st : ∀ x ∈ o.s, x.1.size ≤ 20 ∧ x.2.2.2.size ≤ 20
theorem cutS_size (s : ByteArray) : (cutS s).size ≤ 20 := by unfold cutS; rw [ByteArray.size_extract]; omega
theorem small_tame (o : OpD) : Small (tameD o) := by
  refine ⟨?_, ?_, ?_, ?_, ?_⟩
  · simp only [tameD, List.length_map, List.length_take]; omega
  · simp only [tameD, List.length_map, List.length_take]; omega
  · simp only [tameD, List.length_take]; omega
  · intro x hx
    obtain ⟨y, _, rfl⟩ := List.mem_map.1 hx
    exact ⟨cutS_size _, cutS_size _⟩
  · intro x hx
    obtain ⟨y, _, rfl⟩ := List.mem_map.1 hx
    exact ⟨cutS_size _, cutS_size _⟩
theorem wf_tame {o : OpD} (h : WfD o) : WfD (tameD o) :=
  ⟨h.c, h.q, h.h, h.a, h.t, fun x hx => by obtain ⟨y, hy, rfl⟩ := List.mem_map.1 hx; exact h.p y (List.mem_of_mem_take hy), fun x hx => by obtain ⟨y, hy, rfl⟩ := List.mem_map.1 hx; exact h.s y (List.mem_of_mem_take hy)⟩
theorem in0 : InI64 0 := ⟨by decide, by decide⟩
theorem askd_parts (o : OpD) : ((askd o).p = o.p ∨ (askd o).p = []) ∧ ((askd o).s = o.s ∨ (askd o).s = []) ∧ ((askd o).r = o.r ∨ (askd o).r = []) ∧ ((askd o).c = o.c ∨ (askd o).c = 0) ∧ ((askd o).q = o.q ∨ (askd o).q = 0) ∧ ((askd o).h = o.h ∨ (askd o).h = 0) ∧ ((askd o).a = o.a ∨ (askd o).a = 0) ∧ ((askd o).t = o.t ∨ (askd o).t = 0) := by
  unfold askd
  split
  · simp
  split
  · simp
  split
  · simp
  split
  · simp
  split
  · simp
  split
  · simp
  split
  · simp
  · simp
theorem small_askd {o : OpD} (h : Small o) : Small (askd o) := by
  obtain ⟨h1, h2, h3, _⟩ := askd_parts o
  refine ⟨?_, ?_, ?_, ?_, ?_⟩
  · rcases h1 with e | e <;> rw [e]
    · exact h.p
    · simp
  · rcases h2 with e | e <;> rw [e]
    · exact h.s
    · simp
  · rcases h3 with e | e <;> rw [e]
    · exact h.r
    · simp
  · rcases h1 with e | e <;> rw [e]
    · exact h.pt
    · intro x hx; cases hx
  · rcases h2 with e | e <;> rw [e]
    · exact h.st
    · intro x hx; cases hx
theorem wf_askd {o : OpD} (h : WfD o) : WfD (askd o) := by
  obtain ⟨h1, h2, _, h4, h5, h6, h7, h8⟩ := askd_parts o
  refine ⟨?_, ?_, ?_, ?_, ?_, ?_, ?_⟩
  · rcases h4 with e | e <;> rw [e]; exact h.c; exact in0
  · rcases h5 with e | e <;> rw [e]; exact h.q; exact in0
  · rcases h6 with e | e <;> rw [e]; exact h.h; exact in0
  · rcases h7 with e | e <;> rw [e]; exact h.a; exact in0
  · rcases h8 with e | e <;> rw [e]; exact h.t; exact in0
  · rcases h1 with e | e <;> rw [e]; exact h.p; exact fun x hx => by cases hx
  · rcases h2 with e | e <;> rw [e]; exact h.s; exact fun x hx => by cases hx
theorem sameD_comm (x y : OpD) : sameD x y = sameD y x := by unfold sameD; exact decide_eq_decide.2 eq_comm
def kindsOk (p : List Co) : Bool := p.all fun c => decide (0 ≤ c.2.1 ∧ c.2.1 ≤ 255)
theorem right_small {o : OpD} (h : Small o) : rightD o = (known o.k && sameD o (askd o) && kindsOk o.p) := by
  have e1 : decide (o.p.length ≤ 200 ∧ o.s.length ≤ 200 ∧ o.r.length ≤ 255) = true := decide_eq_true ⟨by have := h.p; omega, by have := h.s; omega, by have := h.r; omega⟩
  have e2 : o.s.all okA = true := List.all_eq_true.2 fun x hx => by have := h.st x hx; simp only [okA, decide_eq_true_iff]; omega
  have e3 : o.p.all okC = kindsOk o.p := by
    unfold kindsOk
    rw [Bool.eq_iff_iff, List.all_eq_true, List.all_eq_true]
    constructor
    · intro h1 x hx
      have := h1 x hx
      simp only [okC, decide_eq_true_iff] at this ⊢
      exact this.2.2
    · intro h1 x hx
      have h2 := h1 x hx
      have h3 := h.pt x hx
      simp only [okC, decide_eq_true_iff] at h2 ⊢
      exact ⟨by omega, by omega, h2⟩
  unfold rightD
  rw [e1, e2, e3, sameD_comm (askd o) o, Bool.and_true, Bool.and_true]
theorem oBy_inj {x y : OpD} (hx : rightD x = true) (hy : rightD y = true) (wx : WfD x) (wy : WfD y) (bx : Byt x.r) (by_ : Byt y.r) : decide (oBy x = oBy y) = sameD x y := by
  unfold sameD
  refine decide_eq_decide.2 ⟨fun h => ?_, fun h => by rw [h]⟩
  have h1 := decD_back x hx wx bx
  have h2 := decD_back y hy wy by_
  rw [h, h2] at h1
  exact (Option.some.inj h1).symm
theorem C_off {α : Type} {d : Kd α} (hK : ∀ W W' x cs, d.K W x cs → d.K W' x cs) {w w1 : World} {A : Option Addr} {n g : Nat} {xs : List α} (h : Kd.C d w A n xs) (hk : KeepBut w w1 g none) (hf : Off (some g) A n) : Kd.C d w1 A n xs :=
  ⟨h.1, h.2.1, fun hn => by
    obtain ⟨ad, e, hc⟩ := h.2.2 hn
    refine ⟨ad, e, fun i x hx => ?_⟩
    obtain ⟨cs, hl, hK', hcell⟩ := hc i x hx
    exact ⟨cs, hl, hK _ _ _ _ hK', fun j u hu => keep_cell hk (hcell j u hu) (by rw [add_block]; exact fun e2 => hf ad e hn (by rw [e2]))⟩⟩
theorem Lies_off {w w1 : World} {x : OpX} {g : Nat} (h : LiesX w x) (hk : KeepBut w w1 g none) (hf : OffX (some g) x) : LiesX w1 x :=
  ⟨C_off (fun _ _ _ _ h => h) h.p hk hf.1, C_off (fun _ _ _ _ h => h) h.s hk hf.2.1, C_off (fun _ _ _ _ h => h) h.r hk hf.2.2⟩
theorem asked_far (o : OpD) (A6 : Option Addr) (m6 : Nat) (A7 : Option Addr) (m7 : Nat) (A8 : Option Addr) (m8 : Nat) (w : World) (h : Lies w o A6 A7 A8) :
    Calls Tryd.prog 18 #[oW o A6 m6 A7 m7 A8 m8] w fun e w' => ∃ B6 n6 B7 n7 B8 n8, e = .returned (oW (askd o) B6 n6 B7 n7 B8 n8) ∧ Lies w' (askd o) B6 B7 B8 ∧ ((B6 = A6 ∨ B6 = none) ∧ (B7 = A7 ∨ B7 = none) ∧ (B8 = A8 ∨ B8 = none)) ∧ Below w.heap.size w w' := by
  obtain ⟨k, c, q, hh, a, t, p, s, r⟩ := o
  by_cases h1 : k = 1
  · subst h1
    refine (asked_1 c q hh a t A6 p.length m6 A7 s.length m7 A8 r.length m8 w).mono ?_
    rintro e w' ⟨rfl, hb⟩
    exact ⟨none, 0, none, 0, none, 0, rfl, ⟨nilCo _, nilAt _, nilR _⟩, ⟨.inr rfl, .inr rfl, .inr rfl⟩, hb⟩
  by_cases h2 : k = 2
  · subst h2
    refine (asked_2 c q hh a t A6 p.length m6 A7 s.length m7 A8 r.length m8 w).mono ?_
    rintro e w' ⟨rfl, hb⟩
    exact ⟨A6, m6, none, 0, none, 0, rfl, ⟨Kd.C_below h.p hb, nilAt _, nilR _⟩, ⟨.inl rfl, .inr rfl, .inr rfl⟩, hb⟩
  by_cases h4 : k = 4
  · subst h4
    refine (asked_4 c q hh a t A6 p.length m6 A7 s.length m7 A8 r.length m8 w).mono ?_
    rintro e w' ⟨rfl, hb⟩
    exact ⟨A6, m6, none, 0, none, 0, rfl, ⟨Kd.C_below h.p hb, nilAt _, nilR _⟩, ⟨.inl rfl, .inr rfl, .inr rfl⟩, hb⟩
  by_cases h3 : k = 3
  · subst h3
    refine (asked_3 c q hh a t A6 p.length m6 A7 s.length m7 A8 r.length m8 w).mono ?_
    rintro e w' ⟨rfl, hb⟩
    exact ⟨none, 0, none, 0, none, 0, rfl, ⟨nilCo _, nilAt _, nilR _⟩, ⟨.inr rfl, .inr rfl, .inr rfl⟩, hb⟩
  by_cases h5 : k = 5
  · subst h5
    refine (asked_5 c q hh a t A6 p.length m6 A7 s.length m7 A8 r.length m8 w).mono ?_
    rintro e w' ⟨rfl, hb⟩
    exact ⟨none, 0, none, 0, none, 0, rfl, ⟨nilCo _, nilAt _, nilR _⟩, ⟨.inr rfl, .inr rfl, .inr rfl⟩, hb⟩
  by_cases h6 : k = 6
  · subst h6
    refine (asked_6 c q hh a t A6 p.length m6 A7 s.length m7 A8 r.length m8 w).mono ?_
    rintro e w' ⟨rfl, hb⟩
    exact ⟨none, 0, A7, m7, none, 0, rfl, ⟨nilCo _, Kd.C_below h.s hb, nilR _⟩, ⟨.inr rfl, .inl rfl, .inr rfl⟩, hb⟩
  by_cases h7 : k = 7
  · subst h7
    refine (asked_7 c q hh a t A6 p.length m6 A7 s.length m7 A8 r.length m8 w).mono ?_
    rintro e w' ⟨rfl, hb⟩
    exact ⟨none, 0, none, 0, none, 0, rfl, ⟨nilCo _, nilAt _, nilR _⟩, ⟨.inr rfl, .inr rfl, .inr rfl⟩, hb⟩
  by_cases h8 : k = 8
  · subst h8
    refine (asked_8 c q hh a t A6 p.length m6 A7 s.length m7 A8 r.length m8 w).mono ?_
    rintro e w' ⟨rfl, hb⟩
    exact ⟨none, 0, none, 0, none, 0, rfl, ⟨nilCo _, nilAt _, nilR _⟩, ⟨.inr rfl, .inr rfl, .inr rfl⟩, hb⟩
  by_cases h9 : k = 9
  · subst h9
    refine (asked_9 c q hh a t A6 p.length m6 A7 s.length m7 A8 r.length m8 w).mono ?_
    rintro e w' ⟨rfl, hb⟩
    exact ⟨none, 0, none, 0, A8, m8, rfl, ⟨nilCo _, nilAt _, Kd.C_below h.r hb⟩, ⟨.inr rfl, .inr rfl, .inl rfl⟩, hb⟩
  have ha : askd ⟨k, c, q, hh, a, t, p, s, r⟩ = ⟨k, 0, 0, 0, 0, 0, [], [], []⟩ := by simp [askd, h1, h2, h3, h4, h5, h6, h7, h8, h9]
  refine (asked_none k (by simp [h9]) (by simp [h8]) (by simp [h1]) (by simp [h2]) (by simp [h4]) (by simp [h3]) (by simp [h5]) (by simp [h7]) (by simp [h6]) c q hh a t A6 p.length m6 A7 s.length m7 A8 r.length m8 w).mono ?_
  rintro e w' ⟨rfl, hb⟩
  rw [ha]
  exact ⟨none, 0, none, 0, none, 0, rfl, ⟨nilCo _, nilAt _, nilR _⟩, ⟨.inr rfl, .inr rfl, .inr rfl⟩, hb⟩

end Go.Proofs.YtbplemhjhpfkgaaDoor.Cd

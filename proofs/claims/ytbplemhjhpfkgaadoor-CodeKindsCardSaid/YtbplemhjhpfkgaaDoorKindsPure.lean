/-
  What broadsidekeep.Pred and .Tuple make of numbers: five right ones at most.
-/
import Derived.Test.YtbplemhjhpfkgaaDoorBookSame
import Derived.Test.YtbplemhjhpfkgaaDoorCodeRight
import Derived.Test.YtbplemhjhpfkgaaDoorKinds8
namespace Go.Proofs.YtbplemhjhpfkgaaDoor.Cd
open Go.RowKit Go.Proofs.YtbplemhjhpfkgaaDoorW.PrintWords Go.Proofs.YtbplemhjhpfkgaaDoorW.PrintLast Go.Proofs.YtbplemhjhpfkgaaDoorW.PrintMore Go.Proofs.YtbplemhjhpfkgaaDoor.Rd
open Go.Proofs.YtbplemhjhpfkgaaDoor.PCodeKinds
set_option linter.unusedVariables false
set_option linter.unusedSimpArgs false
theorem wr_id {n : Int} (h0 : -9223372036854775808 ≤ n) (h1 : n < 9223372036854775808) : wrap64 n = n := by
  unfold wrap64; omega
theorem within_some (a m : Int) (h0 : 0 ≤ m) (h1 : m ≤ 1000) : ∃ r, broadsidebook_Within.f a 0 m = some r ∧ 0 ≤ r ∧ r ≤ m := by
  have e1 : wrap64 (wrap64 (m - 0) + 1) = m + 1 := by rw [wr_id (n := m - 0) (by omega) (by omega), wr_id (by omega) (by omega)]; omega
  have b1 := Int.tmod_lt_of_pos a (show 0 < m + 1 by omega)
  have b2 := Int.lt_tmod_of_pos a (show 0 < m + 1 by omega)
  unfold broadsidebook_Within.f
  rw [e1, if_neg (by omega)]
  generalize Int.tmod a (m + 1) = t at b1 b2
  by_cases ht : t < 0
  · rw [if_pos ht]
    refine ⟨_, rfl, ?_⟩
    rw [wr_id (n := t + m) (by omega) (by omega), wr_id (n := t + m - 0) (by omega) (by omega), wr_id (n := t + m - 0 + 1) (by omega) (by omega), wr_id (by omega) (by omega)]
    omega
  · rw [if_neg ht]
    refine ⟨_, rfl, ?_⟩
    rw [wr_id (by omega) (by omega)]
    omega
theorem texts_le (t : Int) : ∀ l : List ByteArray, broadsidekeep_texts.f = some l → (rdOf ByteArray.empty l t).size ≤ 255 := by
  intro l hl
  obtain rfl := Option.some.inj hl
  unfold rdOf
  generalize t.toNat = n
  rcases n with _ | _ | _ | _ | _ | _ | _ | n
  all_goals (first | decide | (simp))
theorem names_le (t : Int) : ∀ l : List ByteArray, broadsidekeep_Names.f = some l → (rdOf ByteArray.empty l t).size ≤ 255 := by
  intro l hl
  obtain rfl := Option.some.inj hl
  unfold rdOf
  generalize t.toNat = n
  rcases n with _ | _ | _ | _ | _ | _ | _ | n
  all_goals (first | decide | (simp))
theorem texts_some : ∃ l, broadsidekeep_texts.f = some l ∧ l.length = 7 := ⟨_, rfl, rfl⟩
theorem names_some : ∃ l, broadsidekeep_Names.f = some l ∧ l.length = 7 := ⟨_, rfl, rfl⟩
def cOk (r : ByteArray × Int × Int × Int × ByteArray) : Prop := r.2.2.2.2.size ≤ 255 ∧ 0 ≤ r.2.1 ∧ r.2.1 ≤ 255
theorem constraint_some (k : Nat) (nm : ByteArray) (n : Int) : ∃ r, broadsidekeep_Constraint.f (k + 1) nm n = some r ∧ r.1 = nm ∧ cOk r := by
  obtain ⟨t, ht, h0, h3⟩ := within_some n 3 (by omega) (by omega)
  obtain ⟨l, hl, hll⟩ := texts_some
  have key : ∀ b, ∃ r, broadsidekeep_Constraint.j0 (k + 1) n t b nm 0 0 0 ⟨#[]⟩ = some r ∧ r.1 = nm ∧ cOk r := by
    intro b
    simp only [broadsidekeep_Constraint.j0]
    obtain ⟨t1, e1, a1, b1⟩ := within_some (wrap64 (Int.tdiv n 4)) 9 (by omega) (by omega)
    obtain ⟨t2, e2, a2, b2⟩ := within_some (wrap64 (Int.tdiv n 40)) 9 (by omega) (by omega)
    obtain ⟨t3, e3, a3, b3⟩ := within_some (wrap64 (Int.tdiv n 4)) 6 (by omega) (by omega)
    rw [e1, e2, e3, hl]
    simp only [Option.bind_some]
    have g1 : t3 < (l.length : Int) := by omega
    split
    · exact ⟨_, rfl, rfl, by show (⟨#[]⟩ : ByteArray).size ≤ 255; decide, by show (0 : Int) ≤ 1; decide, by show (1 : Int) ≤ 255; decide⟩
    · split
      · exact ⟨_, rfl, rfl, texts_le t3 l hl, by show (0 : Int) ≤ 2; decide, by show (2 : Int) ≤ 255; decide⟩
      · exact ⟨_, rfl, rfl, texts_le t3 l hl, by show (0 : Int) ≤ 3; decide, by show (3 : Int) ≤ 255; decide⟩
  unfold broadsidekeep_Constraint.f
  rw [ht]
  simp only [Option.bind_some]
  split
  · exact key _
  · exact key _
theorem value_some (n : Int) : ∃ r, broadsidekeep_Value.f n = some r ∧ r.2.2.size ≤ 255 := by
  obtain ⟨t1, e1, a1, b1⟩ := within_some (wrap64 (Int.tdiv n 2)) 9 (by omega) (by omega)
  obtain ⟨t3, e3, a3, b3⟩ := within_some (wrap64 (Int.tdiv n 2)) 6 (by omega) (by omega)
  obtain ⟨l, hl, hll⟩ := texts_some
  unfold broadsidekeep_Value.f
  rw [e1, e3, hl]
  simp only [Option.bind_some]
  have g1 : t3 < (l.length : Int) := by omega
  split
  · exact ⟨_, rfl, by show (⟨#[]⟩ : ByteArray).size ≤ 255; decide⟩
  · exact ⟨_, rfl, texts_le t3 l hl⟩
theorem pick_some (l : List Int) (i : Int) (h : 0 ≤ i) : ∃ r, broadsidekeep_pick.f l i = some r := by
  unfold broadsidekeep_pick.f
  split
  · exact ⟨_, rfl⟩
  · rename_i hn
    have hp : 0 < (l.length : Int) := by omega
    rw [if_pos (Int.tmod_nonneg _ h), if_pos (Int.tmod_lt_of_pos i hp)]
    exact ⟨_, rfl⟩
def okS (x : S44) : Prop := x.f0.size ≤ 255 ∧ x.f4.size ≤ 255 ∧ 0 ≤ x.f1 ∧ x.f1 ≤ 255
def okT (x : S59) : Prop := x.f0.size ≤ 255 ∧ x.f1.f2.size ≤ 255
theorem predl_some (l0 l1 : List Int) (T : List ByteArray) (hT : broadsidekeep_Names.f = some T) : ∀ (d : Nat) (x8 : Int) (acc : List S44), d ≤ 7 → x8 = 7 - d → acc.length ≤ 5 → (∀ x ∈ acc, okS x) → ∃ r, broadsidekeep_Pred_Pred.l0 (2 * d + 1) acc T 7 x8 l0 l1 = some r ∧ r.length ≤ 5 ∧ ∀ x ∈ r, okS x := by
  have hlen : T.length = 7 := by obtain rfl := Option.some.inj hT; rfl
  intro d
  induction d with
  | zero =>
    intro x8 acc hd hx ha hk
    unfold broadsidekeep_Pred_Pred.l0
    rw [if_neg (by omega)]
    exact ⟨_, rfl, ha, hk⟩
  | succ d ih =>
    intro x8 acc hd hx ha hk
    have hw : wrap64 (x8 + 1) = x8 + 1 := wr_id (by omega) (by omega)
    have key : ∀ b, (b = true → acc.length < 5) → ∃ r, broadsidekeep_Pred_Pred.j1 (2 * d + 2) acc x8 (rdOf ByteArray.empty T x8) T 7 x8 b l0 l1 = some r ∧ r.length ≤ 5 ∧ ∀ x ∈ r, okS x := by
      intro b hb
      unfold broadsidekeep_Pred_Pred.j1
      rw [hw]
      split
      · rename_i hbt
        obtain ⟨p, hp⟩ := pick_some l1 x8 (by omega)
        obtain ⟨c, hc, hn, hck⟩ := constraint_some (2 * d) (rdOf ByteArray.empty T x8) p
        rw [hp]
        simp only [Option.bind_some]
        rw [hc]
        simp only [Option.bind_some]
        have h5 := hb hbt
        rw [if_pos (by omega)]
        refine ih (x8 + 1) _ (by omega) (by omega) (by simp; omega) ?_
        intro x hx
        rcases List.mem_append.1 hx with hx | hx
        · exact hk x hx
        · obtain rfl := List.mem_singleton.1 hx
          exact ⟨by show c.1.size ≤ 255; rw [hn]; exact names_le x8 T hT, hck.1, hck.2.1, hck.2.2⟩
      · exact ih (x8 + 1) _ (by omega) (by omega) ha hk
    rw [show 2 * (d + 1) + 1 = (2 * d + 2) + 1 by omega]
    unfold broadsidekeep_Pred_Pred.l0
    rw [if_pos (by omega), if_pos (by omega), if_pos (by omega)]
    split
    · split
      · exact key _ (by intro h; have := of_decide_eq_true h; omega)
      · exact key _ (by intro h; cases h)
    · exact key _ (by intro h; cases h)
theorem pred_some (l0 l1 : List Int) : ∃ k r, broadsidekeep_Pred_Pred.f k l0 l1 = some r ∧ r.length ≤ 5 ∧ ∀ x ∈ r, okS x := by
  obtain ⟨T, hT, hl⟩ := names_some
  obtain ⟨r, h1, h2⟩ := predl_some l0 l1 T hT 7 0 [] (by omega) (by omega) (by simp) (by intro x hx; cases hx)
  refine ⟨15, r, ?_, h2⟩
  unfold broadsidekeep_Pred_Pred.f
  rw [hT]
  simp only [Option.bind_some]
  rw [hl]
  exact h1
theorem tupl_some (l0 l1 : List Int) (T : List ByteArray) (hT : broadsidekeep_Names.f = some T) : ∀ (d : Nat) (x8 : Int) (acc : List S59), d ≤ 7 → x8 = 7 - d → acc.length ≤ 5 → (∀ x ∈ acc, okT x) → ∃ r, broadsidekeep_Tuple_Tuple.l0 (2 * d + 1) acc T 7 x8 l0 l1 = some r ∧ r.length ≤ 5 ∧ ∀ x ∈ r, okT x := by
  have hlen : T.length = 7 := by obtain rfl := Option.some.inj hT; rfl
  intro d
  induction d with
  | zero =>
    intro x8 acc hd hx ha hk
    unfold broadsidekeep_Tuple_Tuple.l0
    rw [if_neg (by omega)]
    exact ⟨_, rfl, ha, hk⟩
  | succ d ih =>
    intro x8 acc hd hx ha hk
    have hw : wrap64 (x8 + 1) = x8 + 1 := wr_id (by omega) (by omega)
    have key : ∀ b, (b = true → acc.length < 5) → ∃ r, broadsidekeep_Tuple_Tuple.j1 (2 * d + 2) acc x8 (rdOf ByteArray.empty T x8) T 7 x8 b l0 l1 = some r ∧ r.length ≤ 5 ∧ ∀ x ∈ r, okT x := by
      intro b hb
      unfold broadsidekeep_Tuple_Tuple.j1
      rw [hw]
      split
      · rename_i hbt
        obtain ⟨p, hp⟩ := pick_some l1 x8 (by omega)
        obtain ⟨c, hc, hck⟩ := value_some p
        rw [hp]
        simp only [Option.bind_some]
        rw [hc]
        simp only [Option.bind_some]
        have h5 := hb hbt
        rw [if_pos (by omega)]
        refine ih (x8 + 1) _ (by omega) (by omega) (by simp; omega) ?_
        intro x hx
        rcases List.mem_append.1 hx with hx | hx
        · exact hk x hx
        · obtain rfl := List.mem_singleton.1 hx
          exact ⟨names_le x8 T hT, hck⟩
      · exact ih (x8 + 1) _ (by omega) (by omega) ha hk
    rw [show 2 * (d + 1) + 1 = (2 * d + 2) + 1 by omega]
    unfold broadsidekeep_Tuple_Tuple.l0
    rw [if_pos (by omega), if_pos (by omega), if_pos (by omega)]
    split
    · split
      · exact key _ (by intro h; have := of_decide_eq_true h; omega)
      · exact key _ (by intro h; cases h)
    · exact key _ (by intro h; cases h)
theorem tup_some (l0 l1 : List Int) : ∃ k r, broadsidekeep_Tuple_Tuple.f k l0 l1 = some r ∧ r.length ≤ 5 ∧ ∀ x ∈ r, okT x := by
  obtain ⟨T, hT, hl⟩ := names_some
  obtain ⟨r, h1, h2⟩ := tupl_some l0 l1 T hT 7 0 [] (by omega) (by omega) (by simp) (by intro x hx; cases hx)
  refine ⟨15, r, ?_, h2⟩
  unfold broadsidekeep_Tuple_Tuple.f
  rw [hT]
  simp only [Option.bind_some]
  rw [hl]
  exact h1
/-! ### The print's rows as ours -/
theorem C_map {α β : Type} {d : Kd α} {e : Kd β} (f : α → β) (hs : d.sz = e.sz) (hk : ∀ W x cs, d.K W x cs → e.K W (f x) cs) {w : World} {A : Option Addr} {n : Nat} {xs : List α} (h : Kd.C d w A n xs) : Kd.C e w A n (xs.map f) := by
  refine ⟨by rw [List.length_map]; exact h.1, h.2.1, fun hn => ?_⟩
  obtain ⟨ad, ea, hc⟩ := h.2.2 hn
  refine ⟨ad, ea, fun i x hx => ?_⟩
  rw [List.getElem?_map] at hx
  obtain ⟨y, hy, rfl⟩ := Option.map_eq_some_iff.1 hx
  obtain ⟨c, h1, h2, h3⟩ := hc i y hy
  exact ⟨c, by rw [← hs]; exact h1, hk _ _ _ h2, by rw [← hs]; exact h3⟩
def toCo (x : S44) : Co := (x.f0, x.f1, x.f2, x.f3, x.f4)
def toAt (x : S59) : At := (x.f0, x.f1.f0, x.f1.f1, x.f1.f2)
theorem C_Co {w : World} {A : Option Addr} {n : Nat} {xs : List S44} (h : Kd.C k44 w A n xs) : Kd.C kCo w A n (xs.map toCo) := C_map toCo rfl (fun W x cs h => k44_open h) h
theorem C_At {w : World} {A : Option Addr} {n : Nat} {xs : List S59} (h : Kd.C k59 w A n xs) : Kd.C kAt w A n (xs.map toAt) := C_map toAt rfl (fun W x cs h => k59_open h) h
theorem C_setF {α : Type} {d : Kd α} (hK : ∀ W W' x cs, d.K W x cs → d.K W' x cs) {w : World} {A : Option Addr} {n : Nat} {xs : List α} {g i : Nat} {v : Value} (h : Kd.C d w A n xs) (hne : ∀ ad, A = some ad → ad.block ≠ g) : Kd.C d (w.setCell ⟨g, i, none⟩ v) A n xs := by
  refine ⟨h.1, h.2.1, fun hn => ?_⟩
  obtain ⟨ad, e, hc⟩ := h.2.2 hn
  refine ⟨ad, e, fun j x hx => ?_⟩
  obtain ⟨c, a, b, f⟩ := hc j x hx
  exact ⟨c, a, hK _ _ _ _ b, fun q u hu => (cell_far (p := ⟨g, i, none⟩) (by rw [add_block]; exact hne ad e) _).trans (f q u hu)⟩
theorem C_sets {α : Type} {d : Kd α} (hK : ∀ W W' x cs, d.K W x cs → d.K W' x cs) {A : Option Addr} {n : Nat} {xs : List α} {g : Nat} (hne : ∀ ad, A = some ad → ad.block ≠ g) (v0 v1 v2 v3 v4 v5 v6 v7 v8 : Value) {w : World} (h : Kd.C d w A n xs) :
    Kd.C d (((((((((w.setCell ⟨g, 0, none⟩ v0).setCell ⟨g, 1, none⟩ v1).setCell ⟨g, 2, none⟩ v2).setCell ⟨g, 3, none⟩ v3).setCell ⟨g, 4, none⟩ v4).setCell ⟨g, 5, none⟩ v5).setCell ⟨g, 6, none⟩ v6).setCell ⟨g, 7, none⟩ v7).setCell ⟨g, 8, none⟩ v8) A n xs :=
  C_setF hK (C_setF hK (C_setF hK (C_setF hK (C_setF hK (C_setF hK (C_setF hK (C_setF hK (C_setF hK h hne) hne) hne) hne) hne) hne) hne) hne) hne
theorem kpred_calls (A : Option Addr) (c : Nat) (l0 : List Int) (B : Option Addr) (d : Nat) (l1 : List Int) (w : World) (h0 : Kd.C (Kd.int .i64) w A l0.length l0) (hc : l0.length ≤ c) (h1 : Kd.C (Kd.int .i64) w B l1.length l1) (hd : l1.length ≤ d) :
    Calls Tryd.prog 16 #[.agg #[.slice A l0.length c, .slice B l1.length d]] w fun e w' => ∃ D m p, e = .returned (.slice D p.length m) ∧ (∀ ad, D = some ad → w.heap.size ≤ ad.block ∧ ad.block < w'.heap.size) ∧ Kd.C kCo w' D p.length p ∧ p.length ≤ 5 ∧ p.all okC = true ∧ Below w.heap.size w w' := by
  obtain ⟨k, r, hf, hl, hk⟩ := pred_some l0 l1
  refine (broadsidekeep_Pred_Pred.calls k A c l0 B d l1 r w h0 hc h1 hd hf).mono ?_
  rintro e w' ⟨v, rfl, hR, hb⟩
  obtain ⟨D, m, rfl, hm, hC⟩ := Kd.R_reads hR
  refine ⟨D, m, r.map toCo, by rw [List.length_map], fun ad he => by subst he; exact ⟨Kd.R_base hR _ rfl, Kd.R_lt hR _ rfl⟩, by rw [List.length_map]; exact C_Co hC, by rw [List.length_map]; exact hl, ?_, hb⟩
  rw [List.all_map, List.all_eq_true]
  intro x hx
  obtain ⟨a1, a2, a3, a4⟩ := hk x hx
  show okC (toCo x) = true
  exact (decide_eq_true ⟨a1, a2, a3, a4⟩ : decide (x.f0.size ≤ 255 ∧ x.f4.size ≤ 255 ∧ 0 ≤ x.f1 ∧ x.f1 ≤ 255) = true)
theorem ktup_calls (A : Option Addr) (c : Nat) (l0 : List Int) (B : Option Addr) (d : Nat) (l1 : List Int) (w : World) (h0 : Kd.C (Kd.int .i64) w A l0.length l0) (hc : l0.length ≤ c) (h1 : Kd.C (Kd.int .i64) w B l1.length l1) (hd : l1.length ≤ d) :
    Calls Tryd.prog 17 #[.agg #[.slice A l0.length c, .slice B l1.length d]] w fun e w' => ∃ D m s, e = .returned (.slice D s.length m) ∧ (∀ ad, D = some ad → w.heap.size ≤ ad.block ∧ ad.block < w'.heap.size) ∧ Kd.C kAt w' D s.length s ∧ s.length ≤ 5 ∧ s.all okA = true ∧ Below w.heap.size w w' := by
  obtain ⟨k, r, hf, hl, hk⟩ := tup_some l0 l1
  refine (broadsidekeep_Tuple_Tuple.calls k A c l0 B d l1 r w h0 hc h1 hd hf).mono ?_
  rintro e w' ⟨v, rfl, hR, hb⟩
  obtain ⟨D, m, rfl, hm, hC⟩ := Kd.R_reads hR
  refine ⟨D, m, r.map toAt, by rw [List.length_map], fun ad he => by subst he; exact ⟨Kd.R_base hR _ rfl, Kd.R_lt hR _ rfl⟩, by rw [List.length_map]; exact C_At hC, by rw [List.length_map]; exact hl, ?_, hb⟩
  rw [List.all_map, List.all_eq_true]
  intro x hx
  obtain ⟨a1, a2⟩ := hk x hx
  show okA (toAt x) = true
  exact (decide_eq_true ⟨a1, a2⟩ : decide (x.f0.size ≤ 255 ∧ x.f1.f2.size ≤ 255) = true)
end Go.Proofs.YtbplemhjhpfkgaaDoor.Cd

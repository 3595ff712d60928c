/-
 What broadsidekeep.Message makes of numbers: a right message of short names.
-/
import Derived.Test.YtbplemhjhpfkgaaDoorZKindsTool
import Derived.Test.YtbplemhjhpfkgaaDoorZWirePure
import Derived.Test.YtbplemhjhpfkgaaDoorZMsg
namespace Go.Proofs.YtbplemhjhpfkgaaDoor.Wr
open Go.RowKit YtbplemhjhpfkgaaDoorW.PrintWords YtbplemhjhpfkgaaDoorW.PrintLast YtbplemhjhpfkgaaDoorW.PrintMore Rd
open PCodeKinds
open Go.Proofs.YtbplemhjhpfkgaaDoor.Cd (Co At kCo kAt at_Co at_At)
set_option linter.unusedVariables false
set_option linter.unusedSimpArgs false
def InI64 (n : Int) : Prop := -9223372036854775808 ≤ n ∧ n ≤ 9223372036854775807
theorem i64_0 : InI64 0 := ⟨by decide, by decide⟩
structure WfM (m : MsgD) : Prop where
 ts : InI64 m.ts
 is : InI64 m.is
 p : ∀ x ∈ m.p, InI64 x.2.2.1 ∧ InI64 x.2.2.2.1
 s : ∀ x ∈ m.s, InI64 x.2.2.1
theorem within_one (a m : Int) (h0 : 1 ≤ m) (h1 : m ≤ 1000) : ∃ r, broadsidebook_Within.f a 1 m = some r ∧ 1 ≤ r ∧ r ≤ m := by
 have e1 : wrap64 (wrap64 (m - 1) + 1) = m := by rw [wr_id (n := m - 1) (by omega) (by omega), wr_id (by omega) (by omega)]; omega
 have b1 := Int.tmod_lt_of_pos a (show 0 < m by omega); have b2 := Int.lt_tmod_of_pos a (show 0 < m by omega); unfold broadsidebook_Within.f; rw [e1, if_neg (by omega)]; generalize Int.tmod a m = t at b1 b2
 by_cases ht : t < 0
 ·rw [if_pos ht]; refine ⟨_, rfl, ?_⟩; rw [wr_id (n := t + m) (by omega) (by omega), wr_id (n := t + m - 1) (by omega) (by omega), wr_id (n := t + m - 1 + 1) (by omega) (by omega), wr_id (by omega) (by omega)]; omega
 ·rw [if_neg ht]; refine ⟨_, rfl, ?_⟩; rw [wr_id (by omega) (by omega)]; omega
theorem getC_left {L : List Co} {y : Co} {i : Nat} (h : i < L.length) : getC (L ++ [y]) i = getC L i := by
 unfold getC; rw [List.getD_eq_getElem?_getD, List.getD_eq_getElem?_getD, List.getElem?_append_left h]
theorem getC_last (L : List Co) (y : Co) : getC (L ++ [y]) L.length = y := getC_of (by simp)
theorem getA_left {L : List At} {y : At} {i : Nat} (h : i < L.length) : getA (L ++ [y]) i = getA L i := by
 unfold getA; rw [List.getD_eq_getElem?_getD, List.getD_eq_getElem?_getD, List.getElem?_append_left h]
theorem getA_last (L : List At) (y : At) : getA (L ++ [y]) L.length = y := getA_of (by simp)
theorem getC_mem {L : List Co} {i : Nat} (h : i < L.length) : getC L i ∈ L := by
 rw [getC_of (List.getElem?_eq_getElem h)]; exact List.getElem_mem h
theorem getA_mem {L : List At} {i : Nat} (h : i < L.length) : getA L i ∈ L := by
 rw [getA_of (List.getElem?_eq_getElem h)]; exact List.getElem_mem h
theorem all_congr {f g : Nat → Bool} {n : Nat} (h : ∀ i, i < n → f i = g i) : (List.range n).all f = (List.range n).all g := by
 rw [Bool.eq_iff_iff, List.all_eq_true, List.all_eq_true]; exact ⟨fun ha i hi => by rw [← h i (List.mem_range.1 hi)]; exact ha i hi, fun ha i hi => by rw [h i (List.mem_range.1 hi)]; exact ha i hi⟩
theorem stepC_left {L : List Co} {y : Co} {i : Nat} (h : i < L.length) : stepC (L ++ [y]) i = stepC L i := by
 unfold stepC; rw [getC_left h, getC_left (i := i - 1) (by omega)]
theorem stepA_left {L : List At} {y : At} {i : Nat} (h : i < L.length) : stepA (L ++ [y]) i = stepA L i := by
 unfold stepA; rw [getA_left h, getA_left (i := i - 1) (by omega)]
theorem stepC_snoc {L : List Co} {y : Co} (h : (List.range L.length).all (stepC L) = true) (hy : oneOk y = true) (hl : ∀ x ∈ L, Op.bytesLess x.1.toList y.1.toList = true) : (List.range (L ++ [y]).length).all (stepC (L ++ [y])) = true := by
 rw [List.length_append, List.length_singleton]; refine range_snoc ?_ ?_
 ·rw [all_congr (g := stepC L) (fun i hi => stepC_left hi)]; exact h
 ·unfold stepC; rw [getC_last, hy]
  by_cases h0 : L.length = 0
  ·simp [h0]
  ·rw [getC_left (i := L.length - 1) (by omega), hl _ (getC_mem (by omega))]
   simp
theorem stepA_snoc {L : List At} {y : At} (h : (List.range L.length).all (stepA L) = true) (hy : (nameOk y.1 && valOk y.2.1 y.2.2.1 y.2.2.2) = true) (hl : ∀ x ∈ L, Op.bytesLess x.1.toList y.1.toList = true) : (List.range (L ++ [y]).length).all (stepA (L ++ [y])) = true := by
 rw [List.length_append, List.length_singleton]; refine range_snoc ?_ ?_
 ·rw [all_congr (g := stepA L) (fun i hi => stepA_left hi)]; exact h
 ·unfold stepA; rw [getA_last, hy]
  by_cases h0 : L.length = 0
  ·simp [h0]
  ·rw [getA_left (i := L.length - 1) (by omega), hl _ (getA_mem (by omega))]
   simp
def nmI (i : Nat) : ByteArray := ⟨#[(97 + i).toUInt8]⟩
theorem nmI_at (T : List ByteArray) (hT : broadsidekeep_Names.f = some T) (i : Nat) (h : i < 7) : rdOf ByteArray.empty T (i : Int) = nmI i := by
 obtain rfl := Option.some.inj hT; rcases i with _ | _ | _ | _ | _ | _ | _ | i
 all_goals first | rfl | omega
theorem nmI_ok (i : Nat) (h : i < 7) : nameOk (nmI i) = true := by
 rcases i with _ | _ | _ | _ | _ | _ | _ | i
 all_goals first | (exfalso; omega) | kernel_rfl
theorem nmI_sm (i : Nat) : Sm (nmI i) := by
 show (1 : Nat) ≤ 9223372036854775807
 decide
theorem nmI_less (i j : Nat) (h : i < j) (h7 : j < 7) : Op.bytesLess (nmI i).toList (nmI j).toList = true := by
 rcases i with _ | _ | _ | _ | _ | _ | i
 all_goals rcases j with _ | _ | _ | _ | _ | _ | _ | j
 all_goals first | (exfalso; omega) | kernel_rfl
theorem texts_le3 (t : Int) : ∀ l : List ByteArray, broadsidekeep_texts.f = some l → (rdOf ByteArray.empty l t).size ≤ 3 := by
 intro l hl; obtain rfl := Option.some.inj hl; unfold rdOf; generalize t.toNat = n; rcases n with _ | _ | _ | _ | _ | _ | _ | n
 all_goals (first | decide | (simp))
theorem one_some (k : Nat) (nm : ByteArray) (n : Int) (hn : nameOk nm = true) : ∃ r, broadsidekeep_Constraint.f (k + 1) nm n = some r ∧ r.1 = nm ∧ oneOk r = true ∧ InI64 r.2.2.1 ∧ InI64 r.2.2.2.1 := by
 obtain ⟨t, ht, h0, h3⟩ := within_some n 3 (by omega) (by omega); obtain ⟨l, hl, hll⟩ := texts_some
 have key : ∀ b, ∃ r, broadsidekeep_Constraint.j0 (k + 1) n t b nm 0 0 0 ⟨#[]⟩ = some r ∧ r.1 = nm ∧ oneOk r = true ∧ InI64 r.2.2.1 ∧ InI64 r.2.2.2.1 := by
  intro b; simp only [broadsidekeep_Constraint.j0]; obtain ⟨t1, e1, a1, b1⟩ := within_some (wrap64 (Int.tdiv n 4)) 9 (by omega) (by omega); obtain ⟨t2, e2, a2, b2⟩ := within_some (wrap64 (Int.tdiv n 40)) 9 (by omega) (by omega); obtain ⟨t3, e3, a3, b3⟩ := within_some (wrap64 (Int.tdiv n 4)) 6 (by omega) (by omega); rw [e1, e2, e3, hl]; simp only [Option.bind_some]; have g1 : t3 < (l.length : Int) := by omega
  have g3 := texts_le3 t3 l hl
  split
  ·have hw : wrap64 (t1 + t2) = t1 + t2 := wr_id (by omega) (by omega); refine ⟨_, rfl, rfl, ?_, ⟨by show -9223372036854775808 ≤ t1; omega, by show t1 ≤ 9223372036854775807; omega⟩, ⟨by show -9223372036854775808 ≤ wrap64 (t1 + t2); omega, by show wrap64 (t1 + t2) ≤ 9223372036854775807; omega⟩⟩; have he : (⟨#[]⟩ : ByteArray).toList.isEmpty = true := by kernel_rfl
   simp only [oneOk, hn, hw, he]
   simp
   omega
  ·split
   ·refine ⟨_, rfl, rfl, ?_, i64_0, i64_0⟩; simp only [oneOk, hn]
    simp
    omega
   ·refine ⟨_, rfl, rfl, ?_, i64_0, i64_0⟩; simp only [oneOk, hn]
    simp
    omega
 unfold broadsidekeep_Constraint.f; rw [ht]; simp only [Option.bind_some]
 split
 ·exact key _
 ·exact key _
theorem val_some (n : Int) : ∃ r, broadsidekeep_Value.f n = some r ∧ valOk r.1 r.2.1 r.2.2 = true ∧ InI64 r.2.1 := by
 obtain ⟨t1, e1, a1, b1⟩ := within_some (wrap64 (Int.tdiv n 2)) 9 (by omega) (by omega); obtain ⟨t3, e3, a3, b3⟩ := within_some (wrap64 (Int.tdiv n 2)) 6 (by omega) (by omega); obtain ⟨l, hl, hll⟩ := texts_some; unfold broadsidekeep_Value.f; rw [e1, e3, hl]; simp only [Option.bind_some]; have g1 : t3 < (l.length : Int) := by omega
 have g3 := texts_le3 t3 l hl
 split
 ·exact ⟨_, rfl, by kernel_rfl, ⟨by show -9223372036854775808 ≤ t1; omega, by show t1 ≤ 9223372036854775807; omega⟩⟩
 ·refine ⟨_, rfl, ?_, i64_0⟩; simp only [valOk]
  simp
  omega
structure UpC (L : List Co) (x : Int) : Prop where
 a : (List.range L.length).all (stepC L) = true
 w : ∀ y ∈ L, InI64 y.2.2.1 ∧ InI64 y.2.2.2.1
 n : ∀ y ∈ L, ∃ i : Nat, (i : Int) < x ∧ y.1 = nmI i
structure UpA (L : List At) (x : Int) : Prop where
 a : (List.range L.length).all (stepA L) = true
 w : ∀ y ∈ L, InI64 y.2.2.1
 n : ∀ y ∈ L, ∃ i : Nat, (i : Int) < x ∧ y.1 = nmI i
theorem predR (l0 l1 : List Int) (T : List ByteArray) (hT : broadsidekeep_Names.f = some T) : ∀ (d : Nat) (x8 : Int) (acc : List S44), d ≤ 7 → x8 = 7 - d → acc.length ≤ 5 → UpC (acc.map toCo) x8 → ∃ r, broadsidekeep_Pred_Pred.l0 (2 * d + 1) acc T 7 x8 l0 l1 = some r ∧ r.length ≤ 5 ∧ UpC (r.map toCo) 7 := by
 have hlen : T.length = 7 := by obtain rfl := Option.some.inj hT; rfl
 intro d
 induction d with
 | zero =>
  intro x8 acc hd hx ha hk; obtain rfl : x8 = 7 := by omega
  unfold broadsidekeep_Pred_Pred.l0; rw [if_neg (by omega)]; exact ⟨_, rfl, ha, hk⟩
 | succ d ih =>
  intro x8 acc hd hx ha hk; obtain ⟨i8, rfl⟩ : ∃ i : Nat, x8 = i := ⟨x8.toNat, by omega⟩; have hw : wrap64 ((i8 : Int) + 1) = (i8 : Int) + 1 := wr_id (by omega) (by omega); have hk1 : UpC (acc.map toCo) ((i8 : Int) + 1) := ⟨hk.a, hk.w, fun y hy => by obtain ⟨i, h1, h2⟩ := hk.n y hy; exact ⟨i, by omega, h2⟩⟩
  have key : ∀ b, (b = true → acc.length < 5) → ∃ r, broadsidekeep_Pred_Pred.j1 (2 * d + 2) acc i8 (rdOf ByteArray.empty T i8) T 7 i8 b l0 l1 = some r ∧ r.length ≤ 5 ∧ UpC (r.map toCo) 7 := by
   intro b hb; unfold broadsidekeep_Pred_Pred.j1; rw [hw, nmI_at T hT i8 (by omega)]
   split
   ·rename_i hbt
    obtain ⟨p, hp⟩ := pick_some l1 i8 (by omega); obtain ⟨c, hc, hn, hck, hcw⟩ := one_some (2 * d) (nmI i8) p (nmI_ok i8 (by omega)); rw [hp]; simp only [Option.bind_some]; rw [hc]; simp only [Option.bind_some]; have h5 := hb hbt; rw [if_pos (by omega)]; refine ih ((i8 : Int) + 1) _ (by omega) (by omega) (by simp; omega) ?_; rw [List.map_append]; refine ⟨stepC_snoc hk.a hck (fun x hx => ?_), fun y hy => (List.mem_append.1 hy).elim (hk.w y) (fun h => by rw [List.mem_singleton.1 h]; exact hcw), fun y hy => ?_⟩
    ·obtain ⟨i, h1, h2⟩ := hk.n x hx; rw [h2]
     show Op.bytesLess _ c.1.toList = true
     rw [hn]; exact nmI_less i i8 (by omega) (by omega)
    ·rcases List.mem_append.1 hy with hy | hy
     ·exact hk1.n y hy
     ·obtain rfl := List.mem_singleton.1 hy; exact ⟨i8, by omega, hn⟩
   ·exact ih ((i8 : Int) + 1) _ (by omega) (by omega) ha hk1
  rw [show 2 * (d + 1) + 1 = (2 * d + 2) + 1 by omega]; unfold broadsidekeep_Pred_Pred.l0; rw [if_pos (by omega), if_pos (by omega), if_pos (by omega)]
  split
  ·split
   ·exact key _ (by intro h; have := of_decide_eq_true h; omega)
   ·exact key _ (by intro h; cases h)
  ·exact key _ (by intro h; cases h)
theorem tupR (l0 l1 : List Int) (T : List ByteArray) (hT : broadsidekeep_Names.f = some T) : ∀ (d : Nat) (x8 : Int) (acc : List S59), d ≤ 7 → x8 = 7 - d → acc.length ≤ 5 → UpA (acc.map toAt) x8 → ∃ r, broadsidekeep_Tuple_Tuple.l0 (2 * d + 1) acc T 7 x8 l0 l1 = some r ∧ r.length ≤ 5 ∧ UpA (r.map toAt) 7 := by
 have hlen : T.length = 7 := by obtain rfl := Option.some.inj hT; rfl
 intro d
 induction d with
 | zero =>
  intro x8 acc hd hx ha hk; obtain rfl : x8 = 7 := by omega
  unfold broadsidekeep_Tuple_Tuple.l0; rw [if_neg (by omega)]; exact ⟨_, rfl, ha, hk⟩
 | succ d ih =>
  intro x8 acc hd hx ha hk; obtain ⟨i8, rfl⟩ : ∃ i : Nat, x8 = i := ⟨x8.toNat, by omega⟩; have hw : wrap64 ((i8 : Int) + 1) = (i8 : Int) + 1 := wr_id (by omega) (by omega); have hk1 : UpA (acc.map toAt) ((i8 : Int) + 1) := ⟨hk.a, hk.w, fun y hy => by obtain ⟨i, h1, h2⟩ := hk.n y hy; exact ⟨i, by omega, h2⟩⟩
  have key : ∀ b, (b = true → acc.length < 5) → ∃ r, broadsidekeep_Tuple_Tuple.j1 (2 * d + 2) acc i8 (rdOf ByteArray.empty T i8) T 7 i8 b l0 l1 = some r ∧ r.length ≤ 5 ∧ UpA (r.map toAt) 7 := by
   intro b hb; unfold broadsidekeep_Tuple_Tuple.j1; rw [hw, nmI_at T hT i8 (by omega)]
   split
   ·rename_i hbt
    obtain ⟨p, hp⟩ := pick_some l1 i8 (by omega); obtain ⟨c, hc, hck, hcw⟩ := val_some p; rw [hp]; simp only [Option.bind_some]; rw [hc]; simp only [Option.bind_some]; have h5 := hb hbt; rw [if_pos (by omega)]; refine ih ((i8 : Int) + 1) _ (by omega) (by omega) (by simp; omega) ?_; rw [List.map_append]; refine ⟨stepA_snoc hk.a (by show (nameOk (nmI i8) && valOk c.1 c.2.1 c.2.2) = true; rw [nmI_ok i8 (by omega), hck]; rfl) (fun x hx => ?_), fun y hy => (List.mem_append.1 hy).elim (hk.w y) (fun h => by rw [List.mem_singleton.1 h]; exact hcw), fun y hy => ?_⟩
    ·obtain ⟨i, h1, h2⟩ := hk.n x hx; rw [h2]; exact nmI_less i i8 (by omega) (by omega)
    ·rcases List.mem_append.1 hy with hy | hy
     ·exact hk1.n y hy
     ·obtain rfl := List.mem_singleton.1 hy; exact ⟨i8, by omega, rfl⟩
   ·exact ih ((i8 : Int) + 1) _ (by omega) (by omega) ha hk1
  rw [show 2 * (d + 1) + 1 = (2 * d + 2) + 1 by omega]; unfold broadsidekeep_Tuple_Tuple.l0; rw [if_pos (by omega), if_pos (by omega), if_pos (by omega)]
  split
  ·split
   ·exact key _ (by intro h; have := of_decide_eq_true h; omega)
   ·exact key _ (by intro h; cases h)
  ·exact key _ (by intro h; cases h)
theorem pred15 (l0 l1 : List Int) : ∃ r, broadsidekeep_Pred_Pred.f 15 l0 l1 = some r ∧ predOk (r.map toCo) = true ∧ (∀ y ∈ r.map toCo, Sm y.1) ∧ ∀ y ∈ r.map toCo, InI64 y.2.2.1 ∧ InI64 y.2.2.2.1 := by
 obtain ⟨T, hT, hl⟩ := names_some; obtain ⟨r, h1, h2, h3⟩ := predR l0 l1 T hT 7 0 [] (by omega) (by omega) (by simp) ⟨rfl, fun y hy => (by cases hy), fun y hy => (by cases hy)⟩; refine ⟨r, ?_, ?_, fun y hy => (by obtain ⟨i, _, e⟩ := h3.n y hy; rw [e]; exact nmI_sm i), h3.w⟩
 ·unfold broadsidekeep_Pred_Pred.f; rw [hT]; simp only [Option.bind_some]; rw [hl]; exact h1
 ·unfold predOk; rw [h3.a, List.length_map]
  simp
  omega
theorem tup15 (l0 l1 : List Int) : ∃ r, broadsidekeep_Tuple_Tuple.f 15 l0 l1 = some r ∧ tupOk (r.map toAt) = true ∧ (∀ y ∈ r.map toAt, Sm y.1) ∧ ∀ y ∈ r.map toAt, InI64 y.2.2.1 := by
 obtain ⟨T, hT, hl⟩ := names_some; obtain ⟨r, h1, h2, h3⟩ := tupR l0 l1 T hT 7 0 [] (by omega) (by omega) (by simp) ⟨rfl, fun y hy => (by cases hy), fun y hy => (by cases hy)⟩; refine ⟨r, ?_, ?_, fun y hy => (by obtain ⟨i, _, e⟩ := h3.n y hy; rw [e]; exact nmI_sm i), h3.w⟩
 ·unfold broadsidekeep_Tuple_Tuple.f; rw [hT]; simp only [Option.bind_some]; rw [hl]; exact h1
 ·unfold tupOk; rw [h3.a, List.length_map]
  simp
  omega
def msgOf (k tc ts ic is : Int) (p : List S44) (s : List S59) : MsgD := ⟨k, tc, ts, ic, is, p.map toCo, s.map toAt⟩
theorem idOk4 {a b : Int} (h0 : 0 ≤ a) (h1 : a ≤ 4) (h2 : 0 ≤ b) : idOk a b = true := by
 unfold idOk
 simp
 omega
theorem msg_some (a0 a1 a2 a3 a4 : Int) (l5 l6 l7 l8 : List Int) : ∃ r : Int × Int × Int × Int × Int × (List S44) × (List S59), broadsidekeep_Message_Message.f 17 a0 a1 a2 a3 a4 l5 l6 l7 l8 = some r ∧ rightM (msgOf r.1 r.2.1 r.2.2.1 r.2.2.2.1 r.2.2.2.2.1 r.2.2.2.2.2.1 r.2.2.2.2.2.2) = true ∧ SmM (msgOf r.1 r.2.1 r.2.2.1 r.2.2.2.1 r.2.2.2.2.1 r.2.2.2.2.2.1 r.2.2.2.2.2.2) ∧ WfM (msgOf r.1 r.2.1 r.2.2.1 r.2.2.2.1 r.2.2.2.2.1 r.2.2.2.2.2.1 r.2.2.2.2.2.2) := by
 obtain ⟨k, ek, k0, k1⟩ := within_one a0 5 (by omega) (by omega); obtain ⟨c, ec, c0, c1⟩ := within_some a1 4 (by omega) (by omega); obtain ⟨s, es, s0, s1⟩ := within_some a2 4 (by omega) (by omega); obtain ⟨o, eo, o0, o1⟩ := within_some a3 4 (by omega) (by omega); obtain ⟨n, en, n0, n1⟩ := within_some a4 4 (by omega) (by omega); obtain ⟨p, ep, p0, p1, p2⟩ := pred15 l5 l6; obtain ⟨t, et, t0, t1, t2⟩ := tup15 l7 l8; unfold broadsidekeep_Message_Message.f; rw [ek, ec, es, eo, en]; simp only [Option.bind_some, broadsidekeep_Message_Message.j0, broadsidekeep_Message_Message.j1]; have z1 : idOk c s = true := idOk4 c0 c1 s0; have z2 : idOk o n = true := idOk4 o0 o1 n0; have z3 : idOk 0 0 = true := by decide
 have z4 : predOk [] = true := rfl; have z5 : tupOk [] = true := rfl; obtain rfl | rfl | rfl | rfl | rfl : k = 1 ∨ k = 2 ∨ k = 3 ∨ k = 4 ∨ k = 5 := by omega
 ·simp only [ep, Option.bind_some]; refine ⟨_, rfl, ?_, ⟨p1, fun y hy => (by cases hy)⟩, ⟨⟨by show -9223372036854775808 ≤ s; omega, by show s ≤ 9223372036854775807; omega⟩, i64_0, p2, fun y hy => (by cases hy)⟩⟩
  simp [rightM, msgOf, kindOk, asksI, asksP, asksS, z1, z3, z5, p0]
 ·refine ⟨_, rfl, ?_, ⟨fun y hy => (by cases hy), fun y hy => (by cases hy)⟩, ⟨⟨by show -9223372036854775808 ≤ s; omega, by show s ≤ 9223372036854775807; omega⟩, i64_0, fun y hy => (by cases hy), fun y hy => (by cases hy)⟩⟩
  simp [rightM, msgOf, kindOk, asksI, asksP, asksS, z1, z3, z4, z5]
 ·simp only [ep, Option.bind_some]; refine ⟨_, rfl, ?_, ⟨p1, fun y hy => (by cases hy)⟩, ⟨⟨by show -9223372036854775808 ≤ s; omega, by show s ≤ 9223372036854775807; omega⟩, ⟨by show -9223372036854775808 ≤ n; omega, by show n ≤ 9223372036854775807; omega⟩, p2, fun y hy => (by cases hy)⟩⟩
  simp [rightM, msgOf, kindOk, asksI, asksP, asksS, z1, z2, z5, p0]
 ·refine ⟨_, rfl, ?_, ⟨fun y hy => (by cases hy), fun y hy => (by cases hy)⟩, ⟨⟨by show -9223372036854775808 ≤ s; omega, by show s ≤ 9223372036854775807; omega⟩, ⟨by show -9223372036854775808 ≤ n; omega, by show n ≤ 9223372036854775807; omega⟩, fun y hy => (by cases hy), fun y hy => (by cases hy)⟩⟩
  simp [rightM, msgOf, kindOk, asksI, asksP, asksS, z1, z2, z4, z5]
 ·simp only [et, Option.bind_some]; refine ⟨_, rfl, ?_, ⟨fun y hy => (by cases hy), t1⟩, ⟨⟨by show -9223372036854775808 ≤ s; omega, by show s ≤ 9223372036854775807; omega⟩, ⟨by show -9223372036854775808 ≤ n; omega, by show n ≤ 9223372036854775807; omega⟩, fun y hy => (by cases hy), t2⟩⟩
  simp [rightM, msgOf, kindOk, asksI, asksP, asksS, z1, z2, z4, t0]
theorem msg_calls (a0 a1 a2 a3 a4 : Int) (A5 : Option Addr) (c5 : Nat) (l5 : List Int) (A6 : Option Addr) (c6 : Nat) (l6 : List Int) (A7 : Option Addr) (c7 : Nat) (l7 : List Int) (A8 : Option Addr) (c8 : Nat) (l8 : List Int) (w : World)
  (h5 : Kd.C (Kd.int .i64) w A5 l5.length l5) (k5 : l5.length ≤ c5) (h6 : Kd.C (Kd.int .i64) w A6 l6.length l6) (k6 : l6.length ≤ c6) (h7 : Kd.C (Kd.int .i64) w A7 l7.length l7) (k7 : l7.length ≤ c7) (h8 : Kd.C (Kd.int .i64) w A8 l8.length l8) (k8 : l8.length ≤ c8) :
  Calls Tryd.prog 23 #[.agg #[.int .i64 a0, .int .i64 a1, .int .i64 a2, .int .i64 a3, .int .i64 a4, .slice A5 l5.length c5, .slice A6 l6.length c6, .slice A7 l7.length c7, .slice A8 l8.length c8]] w fun e w' => ∃ (m : MsgD) (D5 : Option Addr) (m5 : Nat) (D6 : Option Addr) (m6 : Nat), e = .returned (mW m D5 m5 D6 m6) ∧ LiesM w' m D5 D6 ∧ m.p.length ≤ m5 ∧ m.s.length ≤ m6 ∧ rightM m = true ∧ SmM m ∧ WfM m ∧ (∀ ad, D5 = some ad → w.heap.size ≤ ad.block) ∧ (∀ ad, D6 = some ad → w.heap.size ≤ ad.block) ∧ Below w.heap.size w w' := by
 obtain ⟨⟨r1, r2, r3, r4, r5, r6, r7⟩, hf, hr, hs, hwf⟩ := msg_some a0 a1 a2 a3 a4 l5 l6 l7 l8; refine (broadsidekeep_Message_Message.calls 17 a0 a1 a2 a3 a4 A5 c5 l5 A6 c6 l6 A7 c7 l7 A8 c8 l8 r1 r2 r3 r4 r5 r6 r7 w h5 k5 h6 k6 h7 k7 h8 k8 hf).mono ?_; rintro e w' ⟨v5, v6, rfl, hR5, hR6, hb⟩; obtain ⟨D5, m5, rfl, hm5, hC5⟩ := Kd.R_reads hR5; obtain ⟨D6, m6, rfl, hm6, hC6⟩ := Kd.R_reads hR6; refine ⟨msgOf r1 r2 r3 r4 r5 r6 r7, D5, m5, D6, m6, by simp [mW, msgOf], ⟨?_, ?_⟩, by simpa [msgOf] using hm5, by simpa [msgOf] using hm6, hr, hs, hwf, fun ad he => by subst he; exact Kd.R_base hR5 _ rfl, fun ad he => by subst he; exact Kd.R_base hR6 _ rfl, hb⟩
 ·show Kd.C kCo w' D5 (r6.map toCo).length (r6.map toCo)
  rw [List.length_map]; exact C_Co hC5
 ·show Kd.C kAt w' D6 (r7.map toAt).length (r7.map toAt)
  rw [List.length_map]; exact C_At hC6
end Go.Proofs.YtbplemhjhpfkgaaDoor.Wr

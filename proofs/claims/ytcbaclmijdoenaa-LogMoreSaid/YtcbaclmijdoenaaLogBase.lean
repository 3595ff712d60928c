/-
  A set of structs or numbers in a map that the call made; rows of structs without slices. (For the functions of package log.)
-/
import Derived.Test.YtcbaclmijdoenaaProg
import Derived.Test.YtcbaclmijdoenaaWMore
import Derived.Test.YtcbaclmijdoenaaWInvWords
import Derived.Test.YtcbaclmijdoenaaWEqStruct
import Derived.Test.YtcbaclmijdoenaaWGuard
import Derived.Lib.Hide
import Derived.Maps.OwnOps
import Derived.Maps.Views
import Derived.DeepKeys5
import Derived.OpenShut
namespace Go.Proofs.Ytcbaclmijdoenaa.Lg
open Go.RowKit Go.ChangeShapes Go.Proofs.YtcbaclmijdoenaaW.PrintWords Go.Proofs.YtcbaclmijdoenaaW.PrintLast Go.Proofs.YtcbaclmijdoenaaW.PrintMore
set_option linter.unusedVariables false
set_option linter.unusedSimpArgs false

/-- Elements of some cells each, none of which is looked into further. -/
def flat {α : Type} (n : Nat) (enc : α → List Value) (hl : ∀ x, (enc x).length = n) (h1 : ∀ x u, u ∈ enc x → u.oneCell' = true) : Kd α where
  sz := n
  E := []
  K := fun _ x cs => cs = enc x
  M := fun _ _ _ x cs => cs = enc x
  K_len := fun h => by rw [h]; exact hl _
  K_one := fun h u hu => h1 _ u (by rw [← h]; exact hu)
  K_below := fun _ h => h
  K_of_M := fun h => h
  M_mono := fun _ h => h
  M_bound := fun h => h
  M_move := fun _ h => h
  M_lower := fun _ h => h

theorem laidOut : laidOutB Try.prog = true := by kernel_rfl

/-- Map block b of w holds true at just the keys of S (among keys that are right), at most n of them. -/
def OwnSet {α : Type} (k e : TypeId) (enc : α → Value) (V : α → Prop) (w : World) (b n : Nat) (S : α → Prop) : Prop :=
  ∃ D : DataW Unit, w.ownsMap Try.prog k (plainElem Try.prog e) b n D ∧ Maps.IsMap D ∧ ∀ x l, V x → keyOf Try.prog k (enc x) = some l → ∃ r : Bool, D.atKey l (.lit (.bool false)) = .lit (.bool r) ∧ (r = true ↔ S x)

section
variable {α : Type} {k e t : TypeId} {enc : α → Value} {V : α → Prop} {w : World} {b n : Nat} {S : α → Prop}
theorem OwnSet.made (w : World) : OwnSet k e enc V (w.alloc (.map #[] 0)) w.heap.size 0 (fun _ : α => False) :=
  ⟨.map [], World.ownsMap_made _ _ _ _, ⟨[], rfl⟩, fun x l _ _ => ⟨false, rfl, by simp⟩⟩
theorem OwnSet.kept {w' : World} {row : Option Nat} (h : OwnSet k e enc V w b n S) (hg : w.grownBy w' row) (hne : some b ≠ row) : OwnSet k e enc V w' b n S := by
  obtain ⟨D, h1, h2, h3⟩ := h
  exact ⟨D, h1.kept hg hne, h2, h3⟩
theorem OwnSet.alloc (h : OwnSet k e enc V w b n S) (o : Obj) : OwnSet k e enc V (w.alloc o) b n S := h.kept (World.grownBy_alloc w o none) (by simp)
theorem OwnSet.lt (h : OwnSet k e enc V w b n S) : b < w.heap.size := by
  obtain ⟨D, h1, _⟩ := h
  exact h1.lt
theorem plainElem_bool_inv {v : Value} {z : DataW Unit × List MemPlace} (he : Try.prog.underlying e = some .bool) (h : plainElem Try.prog e v = some z) : ∃ x, v = .bool x ∧ z = (.lit (.bool x), []) := by
  unfold plainElem at h
  rw [he] at h
  cases v <;> simp at h
  exact ⟨_, rfl, h.symm⟩
theorem OwnSet.lookup (h : OwnSet k e enc V w b n S) (K : Maps.Keyed Try.prog k) (ht : Try.prog.underlying t = some (.map k e)) (he : Try.prog.underlying e = some .bool) (hz : (zeroValue e).run Try.prog w = .ok (.bool false) w)
    {x : α} (hx : V x) {l : Lit} (hk : keyOf Try.prog k (enc x) = some l) : ∃ r : Bool, (Instr.lookup t (.map (some b)) (enc x) false).run Try.prog w = .ok (.bool r) w ∧ (r = true ↔ S x) := by
  obtain ⟨D, h1, h2, h3⟩ := h
  obtain ⟨r, hr, hs⟩ := h3 x l hx hk
  obtain ⟨v, ps, hrun, hv⟩ := h1.lookup K ht hz (plainElem_bool he false) hk
  obtain ⟨y, rfl, hy⟩ := plainElem_bool_inv he hv
  simp only [Prod.mk.injEq] at hy
  rw [hr] at hy
  obtain ⟨hy, _⟩ := hy
  injection hy with hy
  injection hy with hy
  subst hy
  exact ⟨r, hrun, hs⟩
/-- Behind 'm[x] = true'. -/
theorem OwnSet.put {w1 : World} {D : DataW Unit} {x : α} {l : Lit} (h1 : w1.ownsMap Try.prog k (plainElem Try.prog e) b (n + 1) (D.put l (.lit (.bool true)))) (h2 : Maps.IsMap D)
    (h3 : ∀ x l, V x → keyOf Try.prog k (enc x) = some l → ∃ r : Bool, D.atKey l (.lit (.bool false)) = .lit (.bool r) ∧ (r = true ↔ S x)) (K : Maps.Keyed Try.prog k) (hx : V x) (hk : keyOf Try.prog k (enc x) = some l) (hinj : ∀ x y, V x → V y → enc x = enc y → x = y) :
    OwnSet k e enc V w1 b (n + 1) (fun y => y = x ∨ S y) := by
  refine ⟨_, h1, ?_, fun y m hy hm => ?_⟩
  · obtain ⟨es, rfl⟩ := h2
    exact ⟨_, rfl⟩
  · by_cases hlm : m = l
    · subst hlm
      have : y = x := hinj _ _ hy hx (K.inj hm hk)
      exact ⟨true, Maps.atKey_put_same h2 (K.key hk) _ _, by simp [this]⟩
    · obtain ⟨r, hr, hs⟩ := h3 y m hy hm
      refine ⟨r, by rw [Maps.atKey_put_other hlm]; exact hr, ?_⟩
      rw [hs]
      constructor
      · exact .inr
      · rintro (rfl | h)
        · exact absurd (Option.some.inj (hm.symm.trans hk)) hlm
        · exact h
theorem wpList_set_put {ops : Array Oper} {rest : List Oper} {o : Oper} {a : Act} {Q : Exit → Act → World → Prop} (hg : o.guard = none) (m kx v : Operand) (hop : o.op = Op.mapUpdate t m kx v)
    (K : Maps.Keyed Try.prog k) (ht : Try.prog.underlying t = some (.map k e)) (he : Try.prog.underlying e = some .bool) (hm : a.eval m = .map (some b)) (hown : OwnSet k e enc V w b n S) (hn : n < maxLen) (hv : a.eval v = .bool true)
    {x : α} (hkx : a.eval kx = enc x) (hx : V x) (l : Lit) (hk : keyOf Try.prog k (enc x) = some l) (hinj : ∀ x y, V x → V y → enc x = enc y → x = y)
    (hK : ∀ w', OwnSet k e enc V w' b (n + 1) (fun y => y = x ∨ S y) → w.grownBy w' (some b) → wpList Try.prog ops Q rest (a.put o.dst undef) w') : wpList Try.prog ops Q (o :: rest) a w := by
  obtain ⟨D, h1, h2, h3⟩ := hown
  refine wpList_mapUpdate_own w hg m kx v t hop k e K ht (plainElem Try.prog e) b n D hm h1 hn (enc x) (.bool true) l hkx hv hk _ [] (plainElem_bool he true) ?_
  intro w' hw' hg'
  exact hK w' (OwnSet.put hw' h2 h3 K hx hk hinj) hg'
theorem wpList_set_insert {ops : Array Oper} {rest : List Oper} {o : Oper} {a : Act} {Q : Exit → Act → World → Prop} (hg : o.guard = none) (m kx v : Operand) (hop : o.op = Op.insert t m kx v)
    (K : Maps.Keyed Try.prog k) (ht : Try.prog.underlying t = some (.map k e)) (he : Try.prog.underlying e = some .bool) (hm : a.eval m = .map (some b)) (hown : OwnSet k e enc V w b n S) (hn : n < maxLen) (hv : a.eval v = .bool true)
    {x : α} (hkx : a.eval kx = enc x) (hx : V x) (l : Lit) (hk : keyOf Try.prog k (enc x) = some l) (hinj : ∀ x y, V x → V y → enc x = enc y → x = y)
    (hK : ∀ w', OwnSet k e enc V w' b (n + 1) (fun y => y = x ∨ S y) → w.grownBy w' (some b) → wpList Try.prog ops Q rest (a.put o.dst undef) w') : wpList Try.prog ops Q (o :: rest) a w := by
  obtain ⟨D, h1, h2, h3⟩ := hown
  obtain ⟨w', hrun, hw', hg'⟩ := h1.update K ht hn hk (plainElem_bool he true)
  refine wpList_plain hg fun K' hK' => ?_
  unfold Oper.wp
  simp [execOp, hop, hm, hkx, hv, hrun, Result.andThen]
  exact hK' _ _ (hK w' (OwnSet.put hw' h2 h3 K hx hk hinj) hg')
end

/-! ### Crossings -/
abbrev Cr := Int × Int × Int × Int
def InI64 (n : Int) : Prop := (Lit.int .i64 n).wf = true
def crV (x : Cr) : Value := .agg #[.int .i64 x.1, .int .i64 x.2.1, .int .i64 x.2.2.1, .int .i64 x.2.2.2]
def CrOk (x : Cr) : Prop := InI64 x.1 ∧ InI64 x.2.1 ∧ InI64 x.2.2.1 ∧ InI64 x.2.2.2
def kCr : Kd Cr := flat 4 (fun x => [.int .i64 x.1, .int .i64 x.2.1, .int .i64 x.2.2.1, .int .i64 x.2.2.2]) (fun _ => rfl) (by intro x u hu; simp at hu; rcases hu with rfl | rfl | rfl | rfl <;> rfl)
theorem crV_inj (x y : Cr) (_ : CrOk x) (_ : CrOk y) (h : crV x = crV y) : x = y := by
  obtain ⟨a, b, c, d⟩ := x
  obtain ⟨a', b', c', d'⟩ := y
  simp [crV] at h
  simp [h]
theorem crKeyed : Maps.Keyed Try.prog 25 := Maps.Keyed.of_law (deep_law_gate laidOut (of_decide_eq_true (by kernel_rfl)) (of_decide_eq_true (by kernel_rfl)) (by kernel_rfl) (by kernel_rfl))
theorem deepEnough : 2 ≤ Try.prog.types.size := of_decide_eq_true (by kernel_rfl)
theorem crKey (x : Cr) (h : CrOk x) : ∃ l, keyOf Try.prog 25 (crV x) = some l := by
  obtain ⟨a, b, c, d⟩ := x
  obtain ⟨h1, h2, h3, h4⟩ := h
  simp only [InI64] at h1 h2 h3 h4
  have hkt : Try.prog.keyType 25 = true := by kernel_rfl
  have c1 : Try.prog.cellsOf 25 = 4 := by kernel_rfl
  have c2 : Try.prog.cellsOf 23 = 2 := by kernel_rfl
  have c3 : Try.prog.cellsOf 3 = 1 := by kernel_rfl
  obtain ⟨n, hn⟩ : ∃ n, Try.prog.types.size + 1 = n + 3 := ⟨Try.prog.types.size - 2, by have := deepEnough; omega⟩
  unfold keyOf
  rw [hn]
  simp [hkt, Value.formed, crV, Try.underlying25, c1, Value.cells, Program.keyLits, Try.underlying23, Try.underlying3, c2, c3, h1, h2, h3, h4]
  rw [if_pos (by intro i hi; have h2 : i = 0 ∨ i = 1 := by omega
                 rcases h2 with rfl | rfl <;> simp)]
  exact ⟨_, rfl⟩
theorem gotKey (x : Int × Int × Int) (h : InI64 x.1 ∧ InI64 x.2.1 ∧ InI64 x.2.2) : ∃ l, keyOf Try.prog 52 (.agg #[.int .i64 x.1, .int .i64 x.2.1, .int .i64 x.2.2]) = some l := by
  obtain ⟨a, b, c⟩ := x
  obtain ⟨h1, h2, h3⟩ := h
  simp only [InI64] at h1 h2 h3
  have hkt : Try.prog.keyType 52 = true := by kernel_rfl
  have c1 : Try.prog.cellsOf 52 = 3 := by kernel_rfl
  have c2 : Try.prog.cellsOf 23 = 2 := by kernel_rfl
  have c3 : Try.prog.cellsOf 3 = 1 := by kernel_rfl
  obtain ⟨n, hn⟩ : ∃ n, Try.prog.types.size + 1 = n + 3 := ⟨Try.prog.types.size - 2, by have := deepEnough; omega⟩
  unfold keyOf
  rw [hn]
  simp [hkt, Value.formed, Try.underlying52, c1, Value.cells, Program.keyLits, Try.underlying23, Try.underlying3, c2, c3, h1, h2, h3]
  rw [if_pos (by intro i hi; have h2 : i = 0 ∨ i = 1 := by omega
                 rcases h2 with rfl | rfl <;> simp)]
  exact ⟨_, rfl⟩
theorem intKey (n : Int) (h : InI64 n) : keyOf Try.prog 3 (.int .i64 n) = some (.int .i64 n) := by
  simp only [InI64] at h
  simp [keyOf, mapKey, Try.underlying3, h]
theorem intKeyed : Maps.Keyed Try.prog 3 := Maps.int_keyed Try.underlying3
theorem gotKeyed : Maps.Keyed Try.prog 52 := Maps.Keyed.of_law (deep_law_gate laidOut (of_decide_eq_true (by kernel_rfl)) (of_decide_eq_true (by kernel_rfl)) (by kernel_rfl) (by kernel_rfl))

/-- Element i of a row that is read: its cells, as the walk spells their places. -/
theorem at_Cr {w : World} {A : Option Addr} {n : Nat} {xs : List Cr} (h : Kd.C kCr w A n xs) (i : Nat) (h1 : i < n) : ∃ (ad : Addr) (x : Cr), A = some ad ∧ xs[i]? = some x ∧ w.cell? (ad.add (i * 4)) = some (.int .i64 x.1) ∧
    w.cell? ⟨(ad.add (i * 4)).block, (ad.add (i * 4)).off + 1, none⟩ = some (.int .i64 x.2.1) ∧ w.cell? ⟨(ad.add (i * 4)).block, (ad.add (i * 4)).off + 2, none⟩ = some (.int .i64 x.2.2.1) ∧ w.cell? ⟨(ad.add (i * 4)).block, (ad.add (i * 4)).off + 3, none⟩ = some (.int .i64 x.2.2.2) := by
  obtain ⟨ad, e, hc⟩ := h.2.2 (by omega)
  have hl : i < xs.length := by have := h.1; omega
  obtain ⟨c, hs, hr, hcell⟩ := hc i _ (List.getElem?_eq_getElem hl)
  have hr' : c = [.int .i64 xs[i].1, .int .i64 xs[i].2.1, .int .i64 xs[i].2.2.1, .int .i64 xs[i].2.2.2] := hr
  subst hr'
  have hcell' : ∀ j u, [Value.int .i64 xs[i].1, .int .i64 xs[i].2.1, .int .i64 xs[i].2.2.1, .int .i64 xs[i].2.2.2][j]? = some u → w.cell? (ad.add (i * 4 + j)) = some u := hcell
  exact ⟨ad, xs[i], e, List.getElem?_eq_getElem hl, hcell' 0 _ rfl, by rw [← add_field _ _ 1 (by omega)]; exact hcell' 1 _ rfl, by rw [← add_field _ _ 2 (by omega)]; exact hcell' 2 _ rfl, by rw [← add_field _ _ 3 (by omega)]; exact hcell' 3 _ rfl⟩
theorem C_flat_move {α : Type} {n : Nat} {enc : α → List Value} {hl : ∀ x, (enc x).length = n} {h1 : ∀ x u, u ∈ enc x → u.oneCell' = true} {w w1 : World} {A : Option Addr} {m : Nat} {xs : List α}
    (h : Kd.C (flat n enc hl h1) w A m xs) (hm : ∀ a v, w.cell? a = some v → w1.cell? a = some v) : Kd.C (flat n enc hl h1) w1 A m xs :=
  ⟨h.1, h.2.1, fun hn => by
    obtain ⟨ad, e, hc⟩ := h.2.2 hn
    refine ⟨ad, e, fun j p hj => ?_⟩
    obtain ⟨c, hs, hr, hcell⟩ := hc j p hj
    exact ⟨c, hs, hr, fun i u hu => hm _ _ (hcell i u hu)⟩⟩
/-- What a set's writing leaves alone: every cell. -/
theorem OwnSet.cells {α : Type} {k e : TypeId} {enc : α → Value} {V : α → Prop} {w w1 : World} {b n : Nat} {S : α → Prop} (h : OwnSet k e enc V w b n S) (hg : w.grownBy w1 (some b)) : ∀ a v, w.cell? a = some v → w1.cell? a = some v := by
  intro a v hc
  obtain ⟨D, ⟨es, clock, hb, _⟩, _⟩ := h
  have hne : a.block ≠ b := by
    intro he
    subst he
    simp [World.cell?, hb] at hc
  have hlt := World.block_lt_of_cell? w a hc
  rw [World.cell?_of_block (hg.block a.block hlt (fun e => hne (by injection e)))]
  exact hc
theorem cells_at {w0 w : World} (h : Below w0.heap.size w0 w) {a : Addr} {v : Value} (hc : w0.cell? a = some v) : w.cell? a = some v := (h.cell (World.block_lt_of_cell? w0 a hc)).trans hc

set_option maxHeartbeats 1600000 in
theorem once_calls (A : Option Addr) (c : Nat) (xs : List Cr) (w : World) (hr : Kd.C kCr w A xs.length xs) (hok : ∀ x ∈ xs, CrOk x) (hm : xs.length ≤ 1000000) :
    Calls Try.prog 9 #[.slice A xs.length c] w fun e w' => e = .returned (.bool (decide xs.Nodup)) ∧ Below w.heap.size w w' := by
  have HR := Aside0.mk hr
  have HK := Aside0.mk hok
  clear hr hok
  have hmm := @run_makeMap Try.prog
  go_enter Try.func9, Try.ntmps9
  go_wp2
  clear hmm
  go_loopw [9] (fun i wr => ∃ k : Nat, k ≤ xs.length ∧ i = .int .i64 k ∧ Aside0 (OwnSet 25 4 crV CrOk wr w.heap.size k (fun x => x ∈ xs.take k)) ∧ Aside0 (xs.take k).Nodup ∧ Aside0 (Below w.heap.size w wr)) (fun i _ => xs.length - (intOf i).toNat)
  case atStart => exact ⟨0, Nat.zero_le _, rfl, ⟨by simpa using OwnSet.made w⟩, ⟨by simp⟩, ⟨below_alloc (Below.refl _ _) _⟩⟩
  case round =>
    obtain ⟨k, hk, rfl, HS, HN, HB⟩ := hrel
    by_cases hlt : k < xs.length
    · obtain ⟨ad, x, rfl, hx, d0, d1, d2, d3⟩ := at_Cr HR.out k hlt
      replace d0 := cells_at HB.out d0
      replace d1 := cells_at HB.out d1
      replace d2 := cells_at HB.out d2
      replace d3 := cells_at HB.out d3
      have hxm : x ∈ xs := List.mem_of_getElem? hx
      have hV := HK.out x hxm
      obtain ⟨l, hl⟩ := crKey x hV
      have HTK : Hid (xs.take (k + 1) = xs.take k ++ [x]) := Lib.hid (by rw [List.take_add_one, hx]; rfl)
      clear hx hxm
      obtain ⟨r, hlk, hrs⟩ := (HS.out.alloc (.cells #[.int .i64 x.1, .int .i64 x.2.1, .int .i64 x.2.2.1, .int .i64 x.2.2.2] 25)).lookup (t := 49) crKeyed Try.underlying49 Try.underlying4 (by kernel_rfl) hV hl
      have HV := Aside0.mk hV
      have HL := Aside0.mk hl
      have HRS := Aside0.mk hrs
      clear hV hl hrs
      simp only [crV] at hlk
      have HD := Aside0.mk (below_alloc HB.out (.cells #[.int .i64 x.1, .int .i64 x.2.1, .int .i64 x.2.2.1, .int .i64 x.2.2.2] 25))
      have HS1 := Aside0.mk (HS.out.alloc (.cells #[.int .i64 x.1, .int .i64 x.2.1, .int .i64 x.2.2.1, .int .i64 x.2.2.2] 25))
      cases r with
      | true =>
        have hf : decide xs.Nodup = false := by
          rw [decide_eq_false_iff_not]
          intro hn
          have h2 := hn.sublist (List.take_sublist (k + 1) xs)
          rw [HTK.out, List.nodup_append] at h2
          exact h2.2.2 x (HRS.out.1 rfl) x (by simp) rfl
        have HF := Lib.hid hf
        clear hf
        go_wp2
        go_ret
        exact ⟨by rw [HF.out]; rfl, HD.out⟩
      | false =>
        go_wp2_with (first | (at_mapUpdate; refine wpList_set_put rfl _ _ _ rfl crKeyed Try.underlying49 Try.underlying4 rfl HS1.out (by unfold maxLen; omega) rfl (x := x) rfl HV.out l HL.out crV_inj ?_; intro w1 hs1 hg1; have HS2 := Aside0.mk hs1; have HB2 := Aside0.mk (pw_below_grown HD.out _ HD.out.size hg1 (fun j hj => by injection hj with hj; omega)); clear hs1 hg1))
        go_roundw
        case rel => exact ⟨k + 1, by omega, by go_num, ⟨by rw [HTK.out]; simpa [or_comm] using HS2.out⟩, ⟨by rw [HTK.out, List.nodup_append]; exact ⟨HN.out, by simp, fun y hy z hz => by simp at hz; subst hz; intro e; subst e; exact absurd (HRS.out.2 hy) (by simp)⟩⟩, HB2⟩
        case measure => simp [intOf]; omega
    · obtain rfl : k = xs.length := by omega
      have hf : decide xs.Nodup = true := by
        have := HN.out
        rw [List.take_length] at this
        simpa using this
      have HF := Lib.hid hf
      clear hf
      go_wp2
      go_ret
      exact ⟨by rw [HF.out]; rfl, HB.out⟩

def rev (x : Cr) : Cr := (x.2.1, x.1, x.2.2.1, x.2.2.2)
theorem rev_rev (x : Cr) : rev (rev x) = x := rfl
theorem rev_ok {x : Cr} (h : CrOk x) : CrOk (rev x) := ⟨h.2.1, h.1, h.2.2.1, h.2.2.2⟩
/-- Does none go both ways? -/
def OneWay (xs : List Cr) : Prop := ∀ x ∈ xs, rev x ∉ xs
instance (xs : List Cr) : Decidable (OneWay xs) := by unfold OneWay; exact inferInstance
theorem oneWay_snoc (xs : List Cr) (x : Cr) (h : OneWay xs) (h1 : ¬ (rev x = x ∨ rev x ∈ xs)) : OneWay (xs ++ [x]) := by
  intro y hy hr
  simp only [List.mem_append, List.mem_singleton] at hy hr
  rcases hy with hy | rfl
  · rcases hr with hr | hr
    · exact h y hy hr
    · apply h1; right; rw [← hr, rev_rev]; exact hy
  · rcases hr with hr | hr
    · exact h1 (.inr hr)
    · exact h1 (.inl hr)
theorem oneWay_take {xs : List Cr} (k : Nat) (h : OneWay xs) : OneWay (xs.take k) := fun x hx hr => h x (List.mem_of_mem_take hx) (List.mem_of_mem_take hr)

set_option maxHeartbeats 1600000 in
theorem oneway_calls (A : Option Addr) (c : Nat) (xs : List Cr) (w : World) (hr : Kd.C kCr w A xs.length xs) (hok : ∀ x ∈ xs, CrOk x) (hm : xs.length ≤ 1000000) :
    Calls Try.prog 8 #[.slice A xs.length c] w fun e w' => e = .returned (.bool (decide (OneWay xs))) ∧ Below w.heap.size w w' := by
  have HR := Aside0.mk hr
  have HK := Aside0.mk hok
  clear hr hok
  have hmm := @run_makeMap Try.prog
  go_enter Try.func8, Try.ntmps8
  go_wp2
  clear hmm
  go_loopw [9] (fun i wr => ∃ k : Nat, k ≤ xs.length ∧ i = .int .i64 k ∧ Aside0 (OwnSet 25 4 crV CrOk wr w.heap.size k (fun x => x ∈ xs.take k)) ∧ Aside0 (OneWay (xs.take k)) ∧ Aside0 (Below w.heap.size w wr)) (fun i _ => xs.length - (intOf i).toNat)
  case atStart => exact ⟨0, Nat.zero_le _, rfl, ⟨by simpa using OwnSet.made w⟩, ⟨fun x hx => by simp at hx⟩, ⟨below_alloc (Below.refl _ _) _⟩⟩
  case round =>
    obtain ⟨k, hk, rfl, HS, HN, HB⟩ := hrel
    by_cases hlt : k < xs.length
    · obtain ⟨ad, x, rfl, hx, d0, d1, d2, d3⟩ := at_Cr HR.out k hlt
      replace d0 := cells_at HB.out d0
      replace d1 := cells_at HB.out d1
      replace d2 := cells_at HB.out d2
      replace d3 := cells_at HB.out d3
      have hxm : x ∈ xs := List.mem_of_getElem? hx
      have hV := HK.out x hxm
      obtain ⟨l, hl⟩ := crKey x hV
      obtain ⟨l2, hl2⟩ := crKey (rev x) (rev_ok hV)
      have HTK : Hid (xs.take (k + 1) = xs.take k ++ [x]) := Lib.hid (by rw [List.take_add_one, hx]; rfl)
      clear hx hxm
      have HV := Aside0.mk hV
      have HL := Aside0.mk hl
      have HL2 := Aside0.mk hl2
      clear hV hl hl2
      have HD := Aside0.mk (below_alloc HB.out (.cells #[.int .i64 x.1, .int .i64 x.2.1, .int .i64 x.2.2.1, .int .i64 x.2.2.2] 25))
      have HS1 := Aside0.mk (HS.out.alloc (.cells #[.int .i64 x.1, .int .i64 x.2.1, .int .i64 x.2.2.1, .int .i64 x.2.2.2] 25))
      have HX := Aside0.mk (blk_new wr (.cells #[.int .i64 x.1, .int .i64 x.2.1, .int .i64 x.2.2.1, .int .i64 x.2.2.2] 25))
      have HLT := Aside0.mk HS.out.lt
      by_cases hc : rev x = x ∨ rev x ∈ xs.take k
      · have hf : decide (OneWay xs) = false := by
          rw [decide_eq_false_iff_not]
          intro hn
          have h2 := oneWay_take (k + 1) hn
          rw [HTK.out] at h2
          have h3 := h2 x (by simp)
          apply h3
          rcases hc with hc | hc
          · rw [hc]; simp
          · simp [hc]
        have HF := Lib.hid hf
        have HC := Aside0.mk hc
        clear hf hc
        go_wp2_with (first | (at_mapUpdate; refine wpList_set_put rfl _ _ _ rfl crKeyed Try.underlying49 Try.underlying4 rfl HS1.out (by unfold maxLen; omega) rfl (x := x) rfl HV.out l HL.out crV_inj ?_; intro w1 hs1 hg1; obtain ⟨r, hlk, hrs⟩ := hs1.lookup (t := 49) crKeyed Try.underlying49 Try.underlying4 (by kernel_rfl) (rev_ok HV.out) HL2.out; obtain rfl : r = true := (hrs.2 HC.out); have hb1 := blk_grown HX.out hg1 (by have := HLT.out; simp; omega); have e0 := (blk_cell hb1 0); have e1 := (blk_cell hb1 1); have e2 := (blk_cell hb1 2); have e3 := (blk_cell hb1 3); have HB2 := Aside0.mk (pw_below_grown HD.out _ HD.out.size hg1 (fun j hj => by injection hj with hj; omega)); simp only [crV, rev] at hlk; clear hs1 hg1 hrs hb1))
        go_ret
        exact ⟨by rw [HF.out]; rfl, HB2.out⟩
      · have HN2 := Aside0.mk (oneWay_snoc _ x HN.out hc)
        have HC := Aside0.mk hc
        clear hc
        go_wp2_with (first | (at_mapUpdate; refine wpList_set_put rfl _ _ _ rfl crKeyed Try.underlying49 Try.underlying4 rfl HS1.out (by unfold maxLen; omega) rfl (x := x) rfl HV.out l HL.out crV_inj ?_; intro w1 hs1 hg1; obtain ⟨r, hlk, hrs⟩ := hs1.lookup (t := 49) crKeyed Try.underlying49 Try.underlying4 (by kernel_rfl) (rev_ok HV.out) HL2.out; obtain rfl : r = false := (by cases r with | true => exact absurd (hrs.1 rfl) HC.out | false => rfl); have hb1 := blk_grown HX.out hg1 (by have := HLT.out; simp; omega); have e0 := (blk_cell hb1 0); have e1 := (blk_cell hb1 1); have e2 := (blk_cell hb1 2); have e3 := (blk_cell hb1 3); have HS2 := Aside0.mk hs1; have HB2 := Aside0.mk (pw_below_grown HD.out _ HD.out.size hg1 (fun j hj => by injection hj with hj; omega)); simp only [crV, rev] at hlk; clear hs1 hg1 hrs hb1))
        go_roundw
        case rel => exact ⟨k + 1, by omega, by go_num, ⟨by rw [HTK.out]; simpa [or_comm] using HS2.out⟩, ⟨by rw [HTK.out]; exact HN2.out⟩, HB2⟩
        case measure => simp [intOf]; omega
    · obtain rfl : k = xs.length := by omega
      have hf : decide (OneWay xs) = true := by
        have := HN.out
        rw [List.take_length] at this
        simpa using this
      have HF := Lib.hid hf
      clear hf
      go_wp2
      go_ret
      exact ⟨by rw [HF.out]; rfl, HB.out⟩
end Go.Proofs.Ytcbaclmijdoenaa.Lg

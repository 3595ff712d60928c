/-
  code.Encode of what asked keeps: its length, its first byte.
-/
import Derived.Test.YtbplemhjhpfkgaaDoorKindsLaw0
namespace Go.Proofs.YtbplemhjhpfkgaaDoor.Cd
open Go.RowKit Go.Proofs.YtbplemhjhpfkgaaDoorW.PrintWords Go.Proofs.YtbplemhjhpfkgaaDoorW.PrintLast Go.Proofs.YtbplemhjhpfkgaaDoorW.PrintMore Go.Proofs.YtbplemhjhpfkgaaDoor.Rd
set_option linter.unusedVariables false
set_option linter.unusedSimpArgs false
theorem enc_askd (o : OpD) (h : Fit o) (br : Byt o.r) (z : OpD) (hz : askd o = z) (L : Nat) (hL : (oB z).length = L) (B6 : Option Addr) (n6 : Nat) (B7 : Option Addr) (n7 : Nat) (B8 : Option Addr) (n8 : Nat) (w : World) (hl : Lies w z B6 B7 B8) :
    Calls Tryd.prog 14 #[oW z B6 n6 B7 n7 B8 n8] w fun e w' => ∃ ad cR, e = .returned (.tuple #[.slice (some ad) L cR, .nilIface]) ∧ w'.cell? (ad.add 0) = some (.int .u8 o.k) ∧ Below w.heap.size w w' := by
  subst hz
  subst hL
  refine (enc_right (askd o) B6 n6 B7 n7 B8 n8 w hl (byt_askd br) h.right).mono ?_
  rintro e w' ⟨v, rfl, hR, hb⟩
  obtain ⟨a, c, rfl, hc, hC⟩ := Kd.R_reads hR
  have h44 := oB_len h
  obtain ⟨ad, rfl, hcell⟩ := Kd.at_int hC 0 (by omega) (by show (0 : Int) < ((oB (askd o)).length : Int); omega)
  refine ⟨ad, c, rfl, ?_, hb⟩
  have hh := oB_head o h
  have hr : rd (oB (askd o)) 0 = o.k := by
    unfold rd
    rw [List.getD_eq_getElem?_getD, show (0 : Int).toNat = 0 from rfl, hh]
    rfl
  rw [← hr]
  exact hcell
end Go.Proofs.YtbplemhjhpfkgaaDoor.Cd

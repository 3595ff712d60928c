/-
  DERIVED. GIVEN WITH THE SEED: THE CARDS: each row of YtbplemhjhpfkgaaDoorRows.lean that lists a variable, with what it lists TIED to the program's text (the seventh form; the later family's looks); each row that meets fmt, with fmt's text TOLD by the authors' own Lean function (tested against real Go, not proved from fmt's source: count such statements apart). THE CARD IS WHAT COUNTS. Prove the row's statement (the work); the ties are given (YtbplemhjhpfkgaaDoorTie.lean); close each card by the builder's one call (the guide's Derived/Test/ToyasCard.lean, 'card_holds'). Laid BY PROGRAM, IN A SANDBOX (cutbox-door.mjs). By AI agents, Wed Nov 11 2026. No macro, syntax, notation, axiom, sorry.
-/
import Derived.Test.YtbplemhjhpfkgaaDoorRows
import GoSem.ClaimSeven
namespace Go.Proofs.YtbplemhjhpfkgaaDoor
namespace Rows

/-- THE TIED CARD OF 'broadsidelaw23.CodeRuns'. -/
def codeRunsCard : Claim7 := { stood := { row := codeRunsRow, standIns := [], harness := (true, "6a82ae880afdd64d0942e291a6b64a8ec1c75f1b189727aeff0d8068ca7b2101"), looks := true }, kinds := [], alts := [], laidByText := true, laidKinds := [.handle], laidTests := true, laidLooks := .later }
def CodeRunsCardSaid : Prop := Claim7.holds Tryd.pinned (.plain (OpenSpec.ofChange codeRunsSpec)) codeRunsCard

/-- THE TIED CARD OF 'broadsidelaw23.CodeKinds'. -/
def codeKindsCard : Claim7 := { stood := { row := codeKindsRow, standIns := [], harness := (true, "6a82ae880afdd64d0942e291a6b64a8ec1c75f1b189727aeff0d8068ca7b2101"), looks := true }, kinds := [], alts := [], laidByText := true, laidKinds := [.handle], laidTests := true, laidLooks := .later }
def CodeKindsCardSaid : Prop := Claim7.holds Tryd.pinned (.plain (OpenSpec.ofChange codeKindsSpec)) codeKindsCard

/-- THE TIED CARD OF 'broadsidelaw8.WireRuns'. -/
def wireRunsCard : Claim7 := { stood := { row := wireRunsRow, standIns := [], harness := (true, "6a82ae880afdd64d0942e291a6b64a8ec1c75f1b189727aeff0d8068ca7b2101"), looks := true }, kinds := [], alts := [], laidByText := true, laidKinds := [.handle], laidTests := true, laidLooks := .later }
def WireRunsCardSaid : Prop := Claim7.holds Tryd.pinned (.plain (OpenSpec.ofChange wireRunsSpec)) wireRunsCard

/-- THE TIED CARD OF 'broadsidelaw8.WireTurned'. -/
def wireTurnedCard : Claim7 := { stood := { row := wireTurnedRow, standIns := [], harness := (true, "6a82ae880afdd64d0942e291a6b64a8ec1c75f1b189727aeff0d8068ca7b2101"), looks := true }, kinds := [], alts := [], laidByText := true, laidKinds := [.handle], laidTests := true, laidLooks := .later }
def WireTurnedCardSaid : Prop := Claim7.holds Tryd.pinned (.plain (OpenSpec.ofChange wireTurnedSpec)) wireTurnedCard

/-- THE TIED CARD OF 'broadsidelaw23.CodeBack'. -/
def codeBackCard : Claim7 := { stood := { row := codeBackRow, standIns := [], harness := (true, "6a82ae880afdd64d0942e291a6b64a8ec1c75f1b189727aeff0d8068ca7b2101"), looks := true }, kinds := [], alts := [], laidByText := true, laidKinds := [.handle], laidTests := true, laidLooks := .later }
def CodeBackCardSaid : Prop := Claim7.holds Tryd.pinned (.plain (OpenSpec.ofChange codeBackSpec)) codeBackCard

/-- THE TIED CARD OF 'broadsidelaw23.CodeOnly'. -/
def codeOnlyCard : Claim7 := { stood := { row := codeOnlyRow, standIns := [], harness := (true, "6a82ae880afdd64d0942e291a6b64a8ec1c75f1b189727aeff0d8068ca7b2101"), looks := true }, kinds := [], alts := [], laidByText := true, laidKinds := [.handle], laidTests := true, laidLooks := .later }
def CodeOnlyCardSaid : Prop := Claim7.holds Tryd.pinned (.plain (OpenSpec.ofChange codeOnlySpec)) codeOnlyCard

/-- THE TIED CARD OF 'broadsidelaw23.CodeNumbers'. -/
def codeNumbersCard : Claim7 := { stood := { row := codeNumbersRow, standIns := [], harness := (true, "6a82ae880afdd64d0942e291a6b64a8ec1c75f1b189727aeff0d8068ca7b2101"), looks := true }, kinds := [], alts := [], laidByText := true, laidKinds := [.handle], laidTests := true, laidLooks := .later }
def CodeNumbersCardSaid : Prop := Claim7.holds Tryd.pinned (.plain (OpenSpec.ofChange codeNumbersSpec)) codeNumbersCard

/-- THE TIED CARD OF 'broadsidelaw23.CodeScripts'. -/
def codeScriptsCard : Claim7 := { stood := { row := codeScriptsRow, standIns := [], harness := (true, "6a82ae880afdd64d0942e291a6b64a8ec1c75f1b189727aeff0d8068ca7b2101"), looks := true }, kinds := [], alts := [], laidByText := true, laidKinds := [.handle], laidTests := true, laidLooks := .later }
def CodeScriptsCardSaid : Prop := Claim7.holds Tryd.pinned (.plain (OpenSpec.ofChange codeScriptsSpec)) codeScriptsCard

/-- THE TIED CARD OF 'broadsidelaw8.WireSizes'. -/
def wireSizesCard : Claim7 := { stood := { row := wireSizesRow, standIns := [], harness := (true, "6a82ae880afdd64d0942e291a6b64a8ec1c75f1b189727aeff0d8068ca7b2101"), looks := true }, kinds := [], alts := [], laidByText := true, laidKinds := [.handle], laidTests := true, laidLooks := .later }
def WireSizesCardSaid : Prop := Claim7.holds Tryd.pinned (.plain (OpenSpec.ofChange wireSizesSpec)) wireSizesCard

/-- THE TIED CARD OF 'broadsidelaw8.WireOnly'. -/
def wireOnlyCard : Claim7 := { stood := { row := wireOnlyRow, standIns := [], harness := (true, "6a82ae880afdd64d0942e291a6b64a8ec1c75f1b189727aeff0d8068ca7b2101"), looks := true }, kinds := [], alts := [], laidByText := true, laidKinds := [.handle], laidTests := true, laidLooks := .later }
def WireOnlyCardSaid : Prop := Claim7.holds Tryd.pinned (.plain (OpenSpec.ofChange wireOnlySpec)) wireOnlyCard

/-- THE TIED CARD OF 'broadsidelaw8.WireTells'. -/
def wireTellsCard : Claim7 := { stood := { row := wireTellsRow, standIns := [], harness := (true, "6a82ae880afdd64d0942e291a6b64a8ec1c75f1b189727aeff0d8068ca7b2101"), looks := true }, kinds := [], alts := [], laidByText := true, laidKinds := [.handle], laidTests := true, laidLooks := .later }
def WireTellsCardSaid : Prop := Claim7.holds Tryd.pinned (.plain (OpenSpec.ofChange wireTellsSpec)) wireTellsCard

/-- THE SECOND FORM's CARD OF 'broadsidelaw23.CodeRuns'. -/
def codeRunsUptoCard : Claim7 := { stood := { row := codeRunsUptoRow, standIns := [], harness := (true, "6a82ae880afdd64d0942e291a6b64a8ec1c75f1b189727aeff0d8068ca7b2101"), looks := true }, kinds := [], alts := [], laidByText := true, laidKinds := [.handle], laidTests := true, laidLooks := .later }
def CodeRunsUptoCardSaid : Prop := Claim7.holds Tryd.pinned (.plain (OpenSpec.upto codeRunsSpec)) codeRunsUptoCard

/-- THE SECOND FORM's CARD OF 'broadsidelaw23.CodeKinds'. -/
def codeKindsUptoCard : Claim7 := { stood := { row := codeKindsUptoRow, standIns := [], harness := (true, "6a82ae880afdd64d0942e291a6b64a8ec1c75f1b189727aeff0d8068ca7b2101"), looks := true }, kinds := [], alts := [], laidByText := true, laidKinds := [.handle], laidTests := true, laidLooks := .later }
def CodeKindsUptoCardSaid : Prop := Claim7.holds Tryd.pinned (.plain (OpenSpec.upto codeKindsSpec)) codeKindsUptoCard

/-- THE SECOND FORM's CARD OF 'broadsidelaw8.WireRuns'. -/
def wireRunsUptoCard : Claim7 := { stood := { row := wireRunsUptoRow, standIns := [], harness := (true, "6a82ae880afdd64d0942e291a6b64a8ec1c75f1b189727aeff0d8068ca7b2101"), looks := true }, kinds := [], alts := [], laidByText := true, laidKinds := [.handle], laidTests := true, laidLooks := .later }
def WireRunsUptoCardSaid : Prop := Claim7.holds Tryd.pinned (.plain (OpenSpec.upto wireRunsSpec)) wireRunsUptoCard

/-- THE SECOND FORM's CARD OF 'broadsidelaw8.WireTurned'. -/
def wireTurnedUptoCard : Claim7 := { stood := { row := wireTurnedUptoRow, standIns := [], harness := (true, "6a82ae880afdd64d0942e291a6b64a8ec1c75f1b189727aeff0d8068ca7b2101"), looks := true }, kinds := [], alts := [], laidByText := true, laidKinds := [.handle], laidTests := true, laidLooks := .later }
def WireTurnedUptoCardSaid : Prop := Claim7.holds Tryd.pinned (.plain (OpenSpec.upto wireTurnedSpec)) wireTurnedUptoCard

/-- THE SECOND FORM's CARD OF 'broadsidelaw23.CodeBack'. -/
def codeBackUptoCard : Claim7 := { stood := { row := codeBackUptoRow, standIns := [], harness := (true, "6a82ae880afdd64d0942e291a6b64a8ec1c75f1b189727aeff0d8068ca7b2101"), looks := true }, kinds := [], alts := [], laidByText := true, laidKinds := [.handle], laidTests := true, laidLooks := .later }
def CodeBackUptoCardSaid : Prop := Claim7.holds Tryd.pinned (.plain (OpenSpec.upto codeBackSpec)) codeBackUptoCard

/-- THE SECOND FORM's CARD OF 'broadsidelaw23.CodeOnly'. -/
def codeOnlyUptoCard : Claim7 := { stood := { row := codeOnlyUptoRow, standIns := [], harness := (true, "6a82ae880afdd64d0942e291a6b64a8ec1c75f1b189727aeff0d8068ca7b2101"), looks := true }, kinds := [], alts := [], laidByText := true, laidKinds := [.handle], laidTests := true, laidLooks := .later }
def CodeOnlyUptoCardSaid : Prop := Claim7.holds Tryd.pinned (.plain (OpenSpec.upto codeOnlySpec)) codeOnlyUptoCard

/-- THE SECOND FORM's CARD OF 'broadsidelaw23.CodeNumbers'. -/
def codeNumbersUptoCard : Claim7 := { stood := { row := codeNumbersUptoRow, standIns := [], harness := (true, "6a82ae880afdd64d0942e291a6b64a8ec1c75f1b189727aeff0d8068ca7b2101"), looks := true }, kinds := [], alts := [], laidByText := true, laidKinds := [.handle], laidTests := true, laidLooks := .later }
def CodeNumbersUptoCardSaid : Prop := Claim7.holds Tryd.pinned (.plain (OpenSpec.upto codeNumbersSpec)) codeNumbersUptoCard

/-- THE SECOND FORM's CARD OF 'broadsidelaw23.CodeScripts'. -/
def codeScriptsUptoCard : Claim7 := { stood := { row := codeScriptsUptoRow, standIns := [], harness := (true, "6a82ae880afdd64d0942e291a6b64a8ec1c75f1b189727aeff0d8068ca7b2101"), looks := true }, kinds := [], alts := [], laidByText := true, laidKinds := [.handle], laidTests := true, laidLooks := .later }
def CodeScriptsUptoCardSaid : Prop := Claim7.holds Tryd.pinned (.plain (OpenSpec.upto codeScriptsSpec)) codeScriptsUptoCard

/-- THE SECOND FORM's CARD OF 'broadsidelaw8.WireSizes'. -/
def wireSizesUptoCard : Claim7 := { stood := { row := wireSizesUptoRow, standIns := [], harness := (true, "6a82ae880afdd64d0942e291a6b64a8ec1c75f1b189727aeff0d8068ca7b2101"), looks := true }, kinds := [], alts := [], laidByText := true, laidKinds := [.handle], laidTests := true, laidLooks := .later }
def WireSizesUptoCardSaid : Prop := Claim7.holds Tryd.pinned (.plain (OpenSpec.upto wireSizesSpec)) wireSizesUptoCard

/-- THE SECOND FORM's CARD OF 'broadsidelaw8.WireOnly'. -/
def wireOnlyUptoCard : Claim7 := { stood := { row := wireOnlyUptoRow, standIns := [], harness := (true, "6a82ae880afdd64d0942e291a6b64a8ec1c75f1b189727aeff0d8068ca7b2101"), looks := true }, kinds := [], alts := [], laidByText := true, laidKinds := [.handle], laidTests := true, laidLooks := .later }
def WireOnlyUptoCardSaid : Prop := Claim7.holds Tryd.pinned (.plain (OpenSpec.upto wireOnlySpec)) wireOnlyUptoCard

/-- THE SECOND FORM's CARD OF 'broadsidelaw8.WireTells'. -/
def wireTellsUptoCard : Claim7 := { stood := { row := wireTellsUptoRow, standIns := [], harness := (true, "6a82ae880afdd64d0942e291a6b64a8ec1c75f1b189727aeff0d8068ca7b2101"), looks := true }, kinds := [], alts := [], laidByText := true, laidKinds := [.handle], laidTests := true, laidLooks := .later }
def WireTellsUptoCardSaid : Prop := Claim7.holds Tryd.pinned (.plain (OpenSpec.upto wireTellsSpec)) wireTellsUptoCard
end Rows
end Go.Proofs.YtbplemhjhpfkgaaDoor

/-
  DERIVED. GIVEN WITH THE SEED: THE CARDS: each row of YtkjkceeopkfniaaDoorRows.lean that lists a variable, with what it lists TIED to the program's text (the seventh form; the later family's looks); each row that meets fmt, with fmt's text TOLD by the authors' own Lean function (tested against real Go, not proved from fmt's source: count such statements apart). THE CARD IS WHAT COUNTS. Prove the row's statement (the work); the ties are given (YtkjkceeopkfniaaDoorTie.lean); close each card by the builder's one call (the guide's Derived/Test/ToyasCard.lean, 'card_holds'). Laid BY PROGRAM, IN A SANDBOX (cutbox-door.mjs). By AI agents, Wed Nov 11 2026. No macro, syntax, notation, axiom, sorry.
-/
import Derived.Test.YtkjkceeopkfniaaDoorRows
import GoSem.ClaimSeven
namespace Go.Proofs.YtkjkceeopkfniaaDoor
namespace Rows

/-- THE TIED CARD OF 'recantlaw06.TableTells'. -/
def tableTellsCard : Claim7 := { stood := { row := tableTellsRow, standIns := [], harness := (true, "240f496d2943213fe5a981944a66077259a857eb8a2388f942942cc3538f0e9e"), looks := false }, kinds := [], alts := [], laidByText := true, laidKinds := [.widerDeep], laidTests := true, laidLooks := .later }
def TableTellsCardSaid : Prop := Claim7.holds Tryd.pinned (.plain (OpenSpec.ofChange tableTellsSpec)) tableTellsCard

/-- THE TIED CARD OF 'recantlaw06.TableGrows'. -/
def tableGrowsCard : Claim7 := { stood := { row := tableGrowsRow, standIns := [], harness := (true, "240f496d2943213fe5a981944a66077259a857eb8a2388f942942cc3538f0e9e"), looks := false }, kinds := [], alts := [], laidByText := true, laidKinds := [.widerDeep], laidTests := true, laidLooks := .later }
def TableGrowsCardSaid : Prop := Claim7.holds Tryd.pinned (.plain (OpenSpec.ofChange tableGrowsSpec)) tableGrowsCard

/-- THE TIED CARD OF 'recantlaw06.TableAlone'. -/
def tableAloneCard : Claim7 := { stood := { row := tableAloneRow, standIns := [], harness := (true, "240f496d2943213fe5a981944a66077259a857eb8a2388f942942cc3538f0e9e"), looks := false }, kinds := [], alts := [], laidByText := true, laidKinds := [.widerDeep], laidTests := true, laidLooks := .later }
def TableAloneCardSaid : Prop := Claim7.holds Tryd.pinned (.plain (OpenSpec.ofChange tableAloneSpec)) tableAloneCard

/-- THE TIED CARD OF 'recantlaw06.TableFinds'. -/
def tableFindsCard : Claim7 := { stood := { row := tableFindsRow, standIns := [], harness := (true, "240f496d2943213fe5a981944a66077259a857eb8a2388f942942cc3538f0e9e"), looks := false }, kinds := [], alts := [], laidByText := true, laidKinds := [.widerDeep], laidTests := true, laidLooks := .later }
def TableFindsCardSaid : Prop := Claim7.holds Tryd.pinned (.plain (OpenSpec.ofChange tableFindsSpec)) tableFindsCard

/-- THE TIED CARD OF 'recantlaw08.PrefixSerial'. -/
def prefixSerialCard : Claim7 := { stood := { row := prefixSerialRow, standIns := [], harness := (true, "240f496d2943213fe5a981944a66077259a857eb8a2388f942942cc3538f0e9e"), looks := false }, kinds := [], alts := [], laidByText := true, laidKinds := [.widerDeep], laidTests := true, laidLooks := .later }
def PrefixSerialCardSaid : Prop := Claim7.holds Tryd.pinned (.plain (OpenSpec.ofChange prefixSerialSpec)) prefixSerialCard

/-- THE TIED CARD OF 'recantlaw10.LegalOwn'. -/
def legalOwnCard : Claim7 := { stood := { row := legalOwnRow, standIns := [], harness := (true, "240f496d2943213fe5a981944a66077259a857eb8a2388f942942cc3538f0e9e"), looks := false }, kinds := [], alts := [], laidByText := true, laidKinds := [.widerDeep], laidTests := true, laidLooks := .later }
def LegalOwnCardSaid : Prop := Claim7.holds Tryd.pinned (.plain (OpenSpec.ofChange legalOwnSpec)) legalOwnCard

/-- THE TIED CARD OF 'recantlaw10.LegalRows'. -/
def legalRowsCard : Claim7 := { stood := { row := legalRowsRow, standIns := [], harness := (true, "240f496d2943213fe5a981944a66077259a857eb8a2388f942942cc3538f0e9e"), looks := false }, kinds := [], alts := [], laidByText := true, laidKinds := [.widerDeep], laidTests := true, laidLooks := .later }
def LegalRowsCardSaid : Prop := Claim7.holds Tryd.pinned (.plain (OpenSpec.ofChange legalRowsSpec)) legalRowsCard

/-- THE TIED CARD OF 'recantlaw10.LegalSwap'. -/
def legalSwapCard : Claim7 := { stood := { row := legalSwapRow, standIns := [], harness := (true, "240f496d2943213fe5a981944a66077259a857eb8a2388f942942cc3538f0e9e"), looks := false }, kinds := [], alts := [], laidByText := true, laidKinds := [.widerDeep], laidTests := true, laidLooks := .later }
def LegalSwapCardSaid : Prop := Claim7.holds Tryd.pinned (.plain (OpenSpec.ofChange legalSwapSpec)) legalSwapCard

/-- THE TIED CARD OF 'recantlaw21.MachineDoes'. -/
def machineDoesCard : Claim7 := { stood := { row := machineDoesRow, standIns := [], harness := (true, "240f496d2943213fe5a981944a66077259a857eb8a2388f942942cc3538f0e9e"), looks := false }, kinds := [], alts := [], laidByText := true, laidKinds := [.widerDeep], laidTests := true, laidLooks := .later }
def MachineDoesCardSaid : Prop := Claim7.holds Tryd.pinned (.plain (OpenSpec.ofChange machineDoesSpec)) machineDoesCard

/-- THE TIED CARD OF 'recantlaw08.PrefixHolds'. -/
def prefixHoldsCard : Claim7 := { stood := { row := prefixHoldsRow, standIns := [], harness := (true, "240f496d2943213fe5a981944a66077259a857eb8a2388f942942cc3538f0e9e"), looks := false }, kinds := [], alts := [], laidByText := true, laidKinds := [.widerDeep], laidTests := true, laidLooks := .later }
def PrefixHoldsCardSaid : Prop := Claim7.holds Tryd.pinned (.plain (OpenSpec.ofChange prefixHoldsSpec)) prefixHoldsCard

/-- THE TIED CARD OF 'recantlaw10.LegalShort'. -/
def legalShortCard : Claim7 := { stood := { row := legalShortRow, standIns := [], harness := (true, "240f496d2943213fe5a981944a66077259a857eb8a2388f942942cc3538f0e9e"), looks := false }, kinds := [], alts := [], laidByText := true, laidKinds := [.widerDeep], laidTests := true, laidLooks := .later }
def LegalShortCardSaid : Prop := Claim7.holds Tryd.pinned (.plain (OpenSpec.ofChange legalShortSpec)) legalShortCard

/-- THE TIED CARD OF 'recantlaw08.PrefixCuts'. -/
def prefixCutsCard : Claim7 := { stood := { row := prefixCutsRow, standIns := [], harness := (true, "240f496d2943213fe5a981944a66077259a857eb8a2388f942942cc3538f0e9e"), looks := false }, kinds := [], alts := [], laidByText := true, laidKinds := [.widerDeep], laidTests := true, laidLooks := .later }
def PrefixCutsCardSaid : Prop := Claim7.holds Tryd.pinned (.plain (OpenSpec.ofChange prefixCutsSpec)) prefixCutsCard

/-- THE TIED CARD OF 'recantlaw21.MachineRight'. -/
def machineRightCard : Claim7 := { stood := { row := machineRightRow, standIns := [], harness := (true, "240f496d2943213fe5a981944a66077259a857eb8a2388f942942cc3538f0e9e"), looks := false }, kinds := [], alts := [], laidByText := true, laidKinds := [.widerDeep], laidTests := true, laidLooks := .later }
def MachineRightCardSaid : Prop := Claim7.holds Tryd.pinned (.plain (OpenSpec.ofChange machineRightSpec)) machineRightCard

/-- THE TIED CARD OF 'recantlaw21.MachineTakes'. -/
def machineTakesCard : Claim7 := { stood := { row := machineTakesRow, standIns := [], harness := (true, "240f496d2943213fe5a981944a66077259a857eb8a2388f942942cc3538f0e9e"), looks := false }, kinds := [], alts := [], laidByText := true, laidKinds := [.widerDeep], laidTests := true, laidLooks := .later }
def MachineTakesCardSaid : Prop := Claim7.holds Tryd.pinned (.plain (OpenSpec.ofChange machineTakesSpec)) machineTakesCard

/-- THE TIED CARD OF 'recantlaw21.MachineStays'. -/
def machineStaysCard : Claim7 := { stood := { row := machineStaysRow, standIns := [], harness := (true, "240f496d2943213fe5a981944a66077259a857eb8a2388f942942cc3538f0e9e"), looks := false }, kinds := [], alts := [], laidByText := true, laidKinds := [.widerDeep], laidTests := true, laidLooks := .later }
def MachineStaysCardSaid : Prop := Claim7.holds Tryd.pinned (.plain (OpenSpec.ofChange machineStaysSpec)) machineStaysCard

/-- THE SECOND FORM's CARD OF 'recantlaw06.TableTells'. -/
def tableTellsUptoCard : Claim7 := { stood := { row := tableTellsUptoRow, standIns := [], harness := (true, "240f496d2943213fe5a981944a66077259a857eb8a2388f942942cc3538f0e9e"), looks := false }, kinds := [], alts := [], laidByText := true, laidKinds := [.widerDeep], laidTests := true, laidLooks := .later }
def TableTellsUptoCardSaid : Prop := Claim7.holds Tryd.pinned (.plain (OpenSpec.upto tableTellsSpec)) tableTellsUptoCard

/-- THE SECOND FORM's CARD OF 'recantlaw06.TableGrows'. -/
def tableGrowsUptoCard : Claim7 := { stood := { row := tableGrowsUptoRow, standIns := [], harness := (true, "240f496d2943213fe5a981944a66077259a857eb8a2388f942942cc3538f0e9e"), looks := false }, kinds := [], alts := [], laidByText := true, laidKinds := [.widerDeep], laidTests := true, laidLooks := .later }
def TableGrowsUptoCardSaid : Prop := Claim7.holds Tryd.pinned (.plain (OpenSpec.upto tableGrowsSpec)) tableGrowsUptoCard

/-- THE SECOND FORM's CARD OF 'recantlaw06.TableAlone'. -/
def tableAloneUptoCard : Claim7 := { stood := { row := tableAloneUptoRow, standIns := [], harness := (true, "240f496d2943213fe5a981944a66077259a857eb8a2388f942942cc3538f0e9e"), looks := false }, kinds := [], alts := [], laidByText := true, laidKinds := [.widerDeep], laidTests := true, laidLooks := .later }
def TableAloneUptoCardSaid : Prop := Claim7.holds Tryd.pinned (.plain (OpenSpec.upto tableAloneSpec)) tableAloneUptoCard

/-- THE SECOND FORM's CARD OF 'recantlaw06.TableFinds'. -/
def tableFindsUptoCard : Claim7 := { stood := { row := tableFindsUptoRow, standIns := [], harness := (true, "240f496d2943213fe5a981944a66077259a857eb8a2388f942942cc3538f0e9e"), looks := false }, kinds := [], alts := [], laidByText := true, laidKinds := [.widerDeep], laidTests := true, laidLooks := .later }
def TableFindsUptoCardSaid : Prop := Claim7.holds Tryd.pinned (.plain (OpenSpec.upto tableFindsSpec)) tableFindsUptoCard

/-- THE SECOND FORM's CARD OF 'recantlaw08.PrefixSerial'. -/
def prefixSerialUptoCard : Claim7 := { stood := { row := prefixSerialUptoRow, standIns := [], harness := (true, "240f496d2943213fe5a981944a66077259a857eb8a2388f942942cc3538f0e9e"), looks := false }, kinds := [], alts := [], laidByText := true, laidKinds := [.widerDeep], laidTests := true, laidLooks := .later }
def PrefixSerialUptoCardSaid : Prop := Claim7.holds Tryd.pinned (.plain (OpenSpec.upto prefixSerialSpec)) prefixSerialUptoCard

/-- THE SECOND FORM's CARD OF 'recantlaw10.LegalOwn'. -/
def legalOwnUptoCard : Claim7 := { stood := { row := legalOwnUptoRow, standIns := [], harness := (true, "240f496d2943213fe5a981944a66077259a857eb8a2388f942942cc3538f0e9e"), looks := false }, kinds := [], alts := [], laidByText := true, laidKinds := [.widerDeep], laidTests := true, laidLooks := .later }
def LegalOwnUptoCardSaid : Prop := Claim7.holds Tryd.pinned (.plain (OpenSpec.upto legalOwnSpec)) legalOwnUptoCard

/-- THE SECOND FORM's CARD OF 'recantlaw10.LegalRows'. -/
def legalRowsUptoCard : Claim7 := { stood := { row := legalRowsUptoRow, standIns := [], harness := (true, "240f496d2943213fe5a981944a66077259a857eb8a2388f942942cc3538f0e9e"), looks := false }, kinds := [], alts := [], laidByText := true, laidKinds := [.widerDeep], laidTests := true, laidLooks := .later }
def LegalRowsUptoCardSaid : Prop := Claim7.holds Tryd.pinned (.plain (OpenSpec.upto legalRowsSpec)) legalRowsUptoCard

/-- THE SECOND FORM's CARD OF 'recantlaw10.LegalSwap'. -/
def legalSwapUptoCard : Claim7 := { stood := { row := legalSwapUptoRow, standIns := [], harness := (true, "240f496d2943213fe5a981944a66077259a857eb8a2388f942942cc3538f0e9e"), looks := false }, kinds := [], alts := [], laidByText := true, laidKinds := [.widerDeep], laidTests := true, laidLooks := .later }
def LegalSwapUptoCardSaid : Prop := Claim7.holds Tryd.pinned (.plain (OpenSpec.upto legalSwapSpec)) legalSwapUptoCard

/-- THE SECOND FORM's CARD OF 'recantlaw21.MachineDoes'. -/
def machineDoesUptoCard : Claim7 := { stood := { row := machineDoesUptoRow, standIns := [], harness := (true, "240f496d2943213fe5a981944a66077259a857eb8a2388f942942cc3538f0e9e"), looks := false }, kinds := [], alts := [], laidByText := true, laidKinds := [.widerDeep], laidTests := true, laidLooks := .later }
def MachineDoesUptoCardSaid : Prop := Claim7.holds Tryd.pinned (.plain (OpenSpec.upto machineDoesSpec)) machineDoesUptoCard

/-- THE SECOND FORM's CARD OF 'recantlaw08.PrefixHolds'. -/
def prefixHoldsUptoCard : Claim7 := { stood := { row := prefixHoldsUptoRow, standIns := [], harness := (true, "240f496d2943213fe5a981944a66077259a857eb8a2388f942942cc3538f0e9e"), looks := false }, kinds := [], alts := [], laidByText := true, laidKinds := [.widerDeep], laidTests := true, laidLooks := .later }
def PrefixHoldsUptoCardSaid : Prop := Claim7.holds Tryd.pinned (.plain (OpenSpec.upto prefixHoldsSpec)) prefixHoldsUptoCard

/-- THE SECOND FORM's CARD OF 'recantlaw10.LegalShort'. -/
def legalShortUptoCard : Claim7 := { stood := { row := legalShortUptoRow, standIns := [], harness := (true, "240f496d2943213fe5a981944a66077259a857eb8a2388f942942cc3538f0e9e"), looks := false }, kinds := [], alts := [], laidByText := true, laidKinds := [.widerDeep], laidTests := true, laidLooks := .later }
def LegalShortUptoCardSaid : Prop := Claim7.holds Tryd.pinned (.plain (OpenSpec.upto legalShortSpec)) legalShortUptoCard

/-- THE SECOND FORM's CARD OF 'recantlaw08.PrefixCuts'. -/
def prefixCutsUptoCard : Claim7 := { stood := { row := prefixCutsUptoRow, standIns := [], harness := (true, "240f496d2943213fe5a981944a66077259a857eb8a2388f942942cc3538f0e9e"), looks := false }, kinds := [], alts := [], laidByText := true, laidKinds := [.widerDeep], laidTests := true, laidLooks := .later }
def PrefixCutsUptoCardSaid : Prop := Claim7.holds Tryd.pinned (.plain (OpenSpec.upto prefixCutsSpec)) prefixCutsUptoCard

/-- THE SECOND FORM's CARD OF 'recantlaw21.MachineRight'. -/
def machineRightUptoCard : Claim7 := { stood := { row := machineRightUptoRow, standIns := [], harness := (true, "240f496d2943213fe5a981944a66077259a857eb8a2388f942942cc3538f0e9e"), looks := false }, kinds := [], alts := [], laidByText := true, laidKinds := [.widerDeep], laidTests := true, laidLooks := .later }
def MachineRightUptoCardSaid : Prop := Claim7.holds Tryd.pinned (.plain (OpenSpec.upto machineRightSpec)) machineRightUptoCard

/-- THE SECOND FORM's CARD OF 'recantlaw21.MachineTakes'. -/
def machineTakesUptoCard : Claim7 := { stood := { row := machineTakesUptoRow, standIns := [], harness := (true, "240f496d2943213fe5a981944a66077259a857eb8a2388f942942cc3538f0e9e"), looks := false }, kinds := [], alts := [], laidByText := true, laidKinds := [.widerDeep], laidTests := true, laidLooks := .later }
def MachineTakesUptoCardSaid : Prop := Claim7.holds Tryd.pinned (.plain (OpenSpec.upto machineTakesSpec)) machineTakesUptoCard

/-- THE SECOND FORM's CARD OF 'recantlaw21.MachineStays'. -/
def machineStaysUptoCard : Claim7 := { stood := { row := machineStaysUptoRow, standIns := [], harness := (true, "240f496d2943213fe5a981944a66077259a857eb8a2388f942942cc3538f0e9e"), looks := false }, kinds := [], alts := [], laidByText := true, laidKinds := [.widerDeep], laidTests := true, laidLooks := .later }
def MachineStaysUptoCardSaid : Prop := Claim7.holds Tryd.pinned (.plain (OpenSpec.upto machineStaysSpec)) machineStaysUptoCard
end Rows
end Go.Proofs.YtkjkceeopkfniaaDoor

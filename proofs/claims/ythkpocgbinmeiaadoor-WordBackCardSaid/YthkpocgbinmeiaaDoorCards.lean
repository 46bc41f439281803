/-
  DERIVED. GIVEN WITH THE SEED: THE CARDS: each row of YthkpocgbinmeiaaDoorRows.lean that lists a variable, with what it lists TIED to the program's text (the seventh form; the later family's looks); each row that meets fmt, with fmt's text TOLD by the authors' own Lean function (tested against real Go, not proved from fmt's source: count such statements apart). THE CARD IS WHAT COUNTS. Prove the row's statement (the work); the ties are given (YthkpocgbinmeiaaDoorTie.lean); close each card by the builder's one call (the guide's Derived/Test/ToyasCard.lean, 'card_holds'). Laid BY PROGRAM, IN A SANDBOX (cutbox-door.mjs). By AI agents, Wed Nov 11 2026. No macro, syntax, notation, axiom, sorry.
-/
import Derived.Test.YthkpocgbinmeiaaDoorRows
import GoSem.ClaimSeven
namespace Go.Proofs.YthkpocgbinmeiaaDoor
namespace Rows

/-- THE TIED CARD OF 'recantlaw04.BinaryPrints'. -/
def binaryPrintsCard : Claim7 := { stood := { row := binaryPrintsRow, standIns := [], harness := (true, "4e4663d97822ed82f30e176a93c314711f9286f87c1daf880abedbe2d2b66b29"), looks := false }, kinds := [], alts := [], laidByText := true, laidKinds := [.widerDeep], laidTests := true, laidLooks := .later }
def BinaryPrintsCardSaid : Prop := Claim7.holds Tryd.pinned (.plain (OpenSpec.ofChange binaryPrintsSpec)) binaryPrintsCard

/-- THE TIED CARD OF 'recantlaw04.BinaryGrows'. -/
def binaryGrowsCard : Claim7 := { stood := { row := binaryGrowsRow, standIns := [], harness := (true, "4e4663d97822ed82f30e176a93c314711f9286f87c1daf880abedbe2d2b66b29"), looks := false }, kinds := [], alts := [], laidByText := true, laidKinds := [.widerDeep], laidTests := true, laidLooks := .later }
def BinaryGrowsCardSaid : Prop := Claim7.holds Tryd.pinned (.plain (OpenSpec.ofChange binaryGrowsSpec)) binaryGrowsCard

/-- THE TIED CARD OF 'recantlaw01.WordInts'. -/
def wordIntsCard : Claim7 := { stood := { row := wordIntsRow, standIns := [], harness := (true, "4e4663d97822ed82f30e176a93c314711f9286f87c1daf880abedbe2d2b66b29"), looks := false }, kinds := [], alts := [], laidByText := true, laidKinds := [.data, .data, .data], laidTests := true, laidLooks := .later }
def WordIntsCardSaid : Prop := Claim7.holds Tryd.pinned (.plain (OpenSpec.ofChange wordIntsSpec)) wordIntsCard

/-- THE TIED CARD OF 'recantlaw02.TextReads'. -/
def textReadsCard : Claim7 := { stood := { row := textReadsRow, standIns := [], harness := (true, "4e4663d97822ed82f30e176a93c314711f9286f87c1daf880abedbe2d2b66b29"), looks := false }, kinds := [], alts := [], laidByText := true, laidKinds := [.data, .widerDeep, .pinned], laidTests := true, laidLooks := .later }
def TextReadsCardSaid : Prop := Claim7.holds Tryd.pinned (.plain (OpenSpec.ofChange textReadsSpec)) textReadsCard

/-- THE TIED CARD OF 'recantlaw02.TextJoins'. -/
def textJoinsCard : Claim7 := { stood := { row := textJoinsRow, standIns := [], harness := (true, "4e4663d97822ed82f30e176a93c314711f9286f87c1daf880abedbe2d2b66b29"), looks := false }, kinds := [], alts := [], laidByText := true, laidKinds := [.data, .widerDeep, .pinned], laidTests := true, laidLooks := .later }
def TextJoinsCardSaid : Prop := Claim7.holds Tryd.pinned (.plain (OpenSpec.ofChange textJoinsSpec)) textJoinsCard

/-- THE TIED CARD OF 'recantlaw04.BinaryBack'. -/
def binaryBackCard : Claim7 := { stood := { row := binaryBackRow, standIns := [], harness := (true, "4e4663d97822ed82f30e176a93c314711f9286f87c1daf880abedbe2d2b66b29"), looks := false }, kinds := [], alts := [], laidByText := true, laidKinds := [.data, .data, .data, .widerDeep], laidTests := true, laidLooks := .later }
def BinaryBackCardSaid : Prop := Claim7.holds Tryd.pinned (.plain (OpenSpec.ofChange binaryBackSpec)) binaryBackCard

/-- THE TIED CARD OF 'recantlaw01.WordBack'. -/
def wordBackCard : Claim7 := { stood := { row := wordBackRow, standIns := [], harness := (true, "4e4663d97822ed82f30e176a93c314711f9286f87c1daf880abedbe2d2b66b29"), looks := false }, kinds := [], alts := [], laidByText := true, laidKinds := [.data, .data, .data], laidTests := true, laidLooks := .later }
def WordBackCardSaid : Prop := Claim7.holds Tryd.pinned (.plain (OpenSpec.ofChange wordBackSpec)) wordBackCard

/-- THE TIED CARD OF 'recantlaw02.TextBack'. -/
def textBackCard : Claim7 := { stood := { row := textBackRow, standIns := [], harness := (true, "4e4663d97822ed82f30e176a93c314711f9286f87c1daf880abedbe2d2b66b29"), looks := false }, kinds := [], alts := [], laidByText := true, laidKinds := [.data, .data, .data, .data, .widerDeep, .pinned], laidTests := true, laidLooks := .later }
def TextBackCardSaid : Prop := Claim7.holds Tryd.pinned (.plain (OpenSpec.ofChange textBackSpec)) textBackCard

/-- THE TIED CARD OF 'recantlaw02.TextPrints'. -/
def textPrintsCard : Claim7 := { stood := { row := textPrintsRow, standIns := [], harness := (true, "4e4663d97822ed82f30e176a93c314711f9286f87c1daf880abedbe2d2b66b29"), looks := false }, kinds := [], alts := [], laidByText := true, laidKinds := [.data, .data, .data, .data, .widerDeep, .pinned], laidTests := true, laidLooks := .later }
def TextPrintsCardSaid : Prop := Claim7.holds Tryd.pinned (.plain (OpenSpec.ofChange textPrintsSpec)) textPrintsCard

/-- THE SECOND FORM's CARD OF 'recantlaw04.BinaryPrints'. -/
def binaryPrintsUptoCard : Claim7 := { stood := { row := binaryPrintsUptoRow, standIns := [], harness := (true, "4e4663d97822ed82f30e176a93c314711f9286f87c1daf880abedbe2d2b66b29"), looks := false }, kinds := [], alts := [], laidByText := true, laidKinds := [.widerDeep], laidTests := true, laidLooks := .later }
def BinaryPrintsUptoCardSaid : Prop := Claim7.holds Tryd.pinned (.plain (OpenSpec.upto binaryPrintsSpec)) binaryPrintsUptoCard

/-- THE SECOND FORM's CARD OF 'recantlaw04.BinaryGrows'. -/
def binaryGrowsUptoCard : Claim7 := { stood := { row := binaryGrowsUptoRow, standIns := [], harness := (true, "4e4663d97822ed82f30e176a93c314711f9286f87c1daf880abedbe2d2b66b29"), looks := false }, kinds := [], alts := [], laidByText := true, laidKinds := [.widerDeep], laidTests := true, laidLooks := .later }
def BinaryGrowsUptoCardSaid : Prop := Claim7.holds Tryd.pinned (.plain (OpenSpec.upto binaryGrowsSpec)) binaryGrowsUptoCard

/-- THE SECOND FORM's CARD OF 'recantlaw01.WordInts'. -/
def wordIntsUptoCard : Claim7 := { stood := { row := wordIntsUptoRow, standIns := [], harness := (true, "4e4663d97822ed82f30e176a93c314711f9286f87c1daf880abedbe2d2b66b29"), looks := false }, kinds := [], alts := [], laidByText := true, laidKinds := [.data, .data, .data], laidTests := true, laidLooks := .later }
def WordIntsUptoCardSaid : Prop := Claim7.holds Tryd.pinned (.plain (OpenSpec.upto wordIntsSpec)) wordIntsUptoCard

/-- THE SECOND FORM's CARD OF 'recantlaw02.TextReads'. -/
def textReadsUptoCard : Claim7 := { stood := { row := textReadsUptoRow, standIns := [], harness := (true, "4e4663d97822ed82f30e176a93c314711f9286f87c1daf880abedbe2d2b66b29"), looks := false }, kinds := [], alts := [], laidByText := true, laidKinds := [.data, .widerDeep, .pinned], laidTests := true, laidLooks := .later }
def TextReadsUptoCardSaid : Prop := Claim7.holds Tryd.pinned (.plain (OpenSpec.upto textReadsSpec)) textReadsUptoCard

/-- THE SECOND FORM's CARD OF 'recantlaw02.TextJoins'. -/
def textJoinsUptoCard : Claim7 := { stood := { row := textJoinsUptoRow, standIns := [], harness := (true, "4e4663d97822ed82f30e176a93c314711f9286f87c1daf880abedbe2d2b66b29"), looks := false }, kinds := [], alts := [], laidByText := true, laidKinds := [.data, .widerDeep, .pinned], laidTests := true, laidLooks := .later }
def TextJoinsUptoCardSaid : Prop := Claim7.holds Tryd.pinned (.plain (OpenSpec.upto textJoinsSpec)) textJoinsUptoCard

/-- THE SECOND FORM's CARD OF 'recantlaw04.BinaryBack'. -/
def binaryBackUptoCard : Claim7 := { stood := { row := binaryBackUptoRow, standIns := [], harness := (true, "4e4663d97822ed82f30e176a93c314711f9286f87c1daf880abedbe2d2b66b29"), looks := false }, kinds := [], alts := [], laidByText := true, laidKinds := [.data, .data, .data, .widerDeep], laidTests := true, laidLooks := .later }
def BinaryBackUptoCardSaid : Prop := Claim7.holds Tryd.pinned (.plain (OpenSpec.upto binaryBackSpec)) binaryBackUptoCard

/-- THE SECOND FORM's CARD OF 'recantlaw01.WordBack'. -/
def wordBackUptoCard : Claim7 := { stood := { row := wordBackUptoRow, standIns := [], harness := (true, "4e4663d97822ed82f30e176a93c314711f9286f87c1daf880abedbe2d2b66b29"), looks := false }, kinds := [], alts := [], laidByText := true, laidKinds := [.data, .data, .data], laidTests := true, laidLooks := .later }
def WordBackUptoCardSaid : Prop := Claim7.holds Tryd.pinned (.plain (OpenSpec.upto wordBackSpec)) wordBackUptoCard

/-- THE SECOND FORM's CARD OF 'recantlaw02.TextBack'. -/
def textBackUptoCard : Claim7 := { stood := { row := textBackUptoRow, standIns := [], harness := (true, "4e4663d97822ed82f30e176a93c314711f9286f87c1daf880abedbe2d2b66b29"), looks := false }, kinds := [], alts := [], laidByText := true, laidKinds := [.data, .data, .data, .data, .widerDeep, .pinned], laidTests := true, laidLooks := .later }
def TextBackUptoCardSaid : Prop := Claim7.holds Tryd.pinned (.plain (OpenSpec.upto textBackSpec)) textBackUptoCard

/-- THE SECOND FORM's CARD OF 'recantlaw02.TextPrints'. -/
def textPrintsUptoCard : Claim7 := { stood := { row := textPrintsUptoRow, standIns := [], harness := (true, "4e4663d97822ed82f30e176a93c314711f9286f87c1daf880abedbe2d2b66b29"), looks := false }, kinds := [], alts := [], laidByText := true, laidKinds := [.data, .data, .data, .data, .widerDeep, .pinned], laidTests := true, laidLooks := .later }
def TextPrintsUptoCardSaid : Prop := Claim7.holds Tryd.pinned (.plain (OpenSpec.upto textPrintsSpec)) textPrintsUptoCard
end Rows
end Go.Proofs.YthkpocgbinmeiaaDoor

/-
  NARROWER THAN 'FOR EVERY INPUT', by the rows' own cells (each row's printed sentence says how): TableTells: laid · TableGrows: laid · TableAlone: laid · TableFinds: laid · PrefixSerial: laid · LegalOwn: laid · LegalRows: laid · LegalSwap: laid · MachineDoes: laid · PrefixHolds: laid · LegalShort: laid · PrefixCuts: laid · MachineRight: laid · MachineTakes: laid · MachineStays: laid.
  DERIVED. THE GIVEN ROWS OF THIS SEAT. 15 by the template 'for every input the law returns true; each argument reads behind the call as it read before'; 0 by the template 'total and deterministic' (their statements: YtkjkceeopkfniaaDoorTotals.lean).
  GIVEN WITH THE SEED: the statements are not yours to turn. If you find one false, say at which input.
  Laid BY PROGRAM, IN A SANDBOX (cutbox-rows.mjs): the forced cells as the released guide's own fill.sh prints them over the translation 22a24cac8b3ed72b… (all of the seat's roots in one cut). By AI agents, Wed Nov 11 2026. No macro, syntax, notation, axiom, sorry.
-/
import Derived.Test.YtkjkceeopkfniaaDoorChecked
import GoSem.Claim
import GoSem.ClaimJoined
import GoSem.ClaimMapViews
import Derived.JoinedTies
import Derived.KernelRfl
namespace Go.Proofs.YtkjkceeopkfniaaDoor
/- THE CELL 'sum', in the pinned program and in every row, IS THE sha256 OF THE DUMP (.gsa) THAT YtkjkceeopkfniaaDoorProg.lean LOADS. Nothing in Lean hashes anything: it is a label: what it is worth is what the hold of that sum in a sandbox is worth. -/
noncomputable def Tryd.pinned : Pinned := { name := "ytkjkceeopkfniaadoor", sum := "22a24cac8b3ed72b1ceb49ffa8f12331fb6b8db98affcaaa7b34eb729fee3efd", checked := Tryd.checked }
namespace Rows
def none {H : Type} : Left H := { results := [], args := [] }

/- WHAT THE LISTED PACKAGE-LEVEL VARIABLES READ AS WHEN THE CALL BEGINS. Each datum BY PROGRAM (the guide's laid-datum.mjs) off the statement by which the dump's own 'gosem.cut.vars' lays the variable. In a bare row this is a premise. The card (YtkjkceeopkfniaaDoorCards.lean) ties it to the program's text. -/
def laid_recant_text_kinds {H : Type} : DataW H := .agg [.agg [.lit (.string [98, 101, 103, 105, 110]), .lit (.bool false), .lit (.bool false)], .agg [.lit (.string [98, 101, 103, 117, 110]), .lit (.bool false), .lit (.bool false)], .agg [.lit (.string [114, 101, 97, 100]), .lit (.bool true), .lit (.bool false)], .agg [.lit (.string [103, 111, 116]), .lit (.bool false), .lit (.bool true)], .agg [.lit (.string [119, 114, 105, 116, 101]), .lit (.bool true), .lit (.bool true)], .agg [.lit (.string [119, 114, 111, 116, 101]), .lit (.bool false), .lit (.bool false)], .agg [.lit (.string [99, 111, 109, 109, 105, 116]), .lit (.bool false), .lit (.bool false)], .agg [.lit (.string [99, 111, 109, 109, 105, 116, 116, 101, 100]), .lit (.bool false), .lit (.bool false)], .agg [.lit (.string [99, 97, 110, 99, 101, 108]), .lit (.bool false), .lit (.bool false)], .agg [.lit (.string [97, 98, 111, 114, 116, 101, 100]), .lit (.bool false), .lit (.bool false)]]

/-- 'recantlaw06.TableTells': WHATEVER THE INPUT: true; the input reads as it did. -/
def tableTellsSpec : ChangeSpec := { name := "tableTells", fn := fun _ => fun
  | [d] => { results := [.lit (.bool true)], args := [d] }
  | _ => none }
def tableTellsRow : OpenClaim := { program := "ytkjkceeopkfniaadoor", sum := "22a24cac8b3ed72b1ceb49ffa8f12331fb6b8db98affcaaa7b34eb729fee3efd", func := "recant/recantlaw06.TableTells", spec := "tableTells", unfollowed := true, recurses := true, named := ["recant/text.kinds"], apart := false, laid := [("recant/text.kinds", laid_recant_text_kinds)] }
def TableTellsSaid : Prop := tableTellsRow.holds Tryd.pinned (OpenSpec.ofChange tableTellsSpec)

/-- ITS FALSE NEIGHBOUR: 'it returns false'. Refute it at one input. -/
def tableTellsWrong : ChangeSpec := { name := "tableTells", fn := fun _ => fun
  | [d] => { results := [.lit (.bool false)], args := [d] }
  | _ => none }
def TableTellsWrongFalsely : Prop := tableTellsRow.holds Tryd.pinned (OpenSpec.ofChange tableTellsWrong)

/-- 'recantlaw06.TableGrows': WHATEVER THE INPUT: true; the input reads as it did. -/
def tableGrowsSpec : ChangeSpec := { name := "tableGrows", fn := fun _ => fun
  | [d1, d2] => { results := [.lit (.bool true)], args := [d1, d2] }
  | _ => none }
def tableGrowsRow : OpenClaim := { program := "ytkjkceeopkfniaadoor", sum := "22a24cac8b3ed72b1ceb49ffa8f12331fb6b8db98affcaaa7b34eb729fee3efd", func := "recant/recantlaw06.TableGrows", spec := "tableGrows", unfollowed := true, recurses := true, named := ["recant/text.kinds"], apart := false, laid := [("recant/text.kinds", laid_recant_text_kinds)] }
def TableGrowsSaid : Prop := tableGrowsRow.holds Tryd.pinned (OpenSpec.ofChange tableGrowsSpec)

/-- ITS FALSE NEIGHBOUR: 'it returns false'. Refute it at one input. -/
def tableGrowsWrong : ChangeSpec := { name := "tableGrows", fn := fun _ => fun
  | [d1, d2] => { results := [.lit (.bool false)], args := [d1, d2] }
  | _ => none }
def TableGrowsWrongFalsely : Prop := tableGrowsRow.holds Tryd.pinned (OpenSpec.ofChange tableGrowsWrong)

/-- 'recantlaw06.TableAlone': WHATEVER THE INPUT: true; the input reads as it did. -/
def tableAloneSpec : ChangeSpec := { name := "tableAlone", fn := fun _ => fun
  | [d] => { results := [.lit (.bool true)], args := [d] }
  | _ => none }
def tableAloneRow : OpenClaim := { program := "ytkjkceeopkfniaadoor", sum := "22a24cac8b3ed72b1ceb49ffa8f12331fb6b8db98affcaaa7b34eb729fee3efd", func := "recant/recantlaw06.TableAlone", spec := "tableAlone", unfollowed := true, recurses := true, named := ["recant/text.kinds"], apart := false, laid := [("recant/text.kinds", laid_recant_text_kinds)] }
def TableAloneSaid : Prop := tableAloneRow.holds Tryd.pinned (OpenSpec.ofChange tableAloneSpec)

/-- ITS FALSE NEIGHBOUR: 'it returns false'. Refute it at one input. -/
def tableAloneWrong : ChangeSpec := { name := "tableAlone", fn := fun _ => fun
  | [d] => { results := [.lit (.bool false)], args := [d] }
  | _ => none }
def TableAloneWrongFalsely : Prop := tableAloneRow.holds Tryd.pinned (OpenSpec.ofChange tableAloneWrong)

/-- 'recantlaw06.TableFinds': WHATEVER THE INPUT: true; the input reads as it did. -/
def tableFindsSpec : ChangeSpec := { name := "tableFinds", fn := fun _ => fun
  | [d1, d2, d3] => { results := [.lit (.bool true)], args := [d1, d2, d3] }
  | _ => none }
def tableFindsRow : OpenClaim := { program := "ytkjkceeopkfniaadoor", sum := "22a24cac8b3ed72b1ceb49ffa8f12331fb6b8db98affcaaa7b34eb729fee3efd", func := "recant/recantlaw06.TableFinds", spec := "tableFinds", unfollowed := true, recurses := true, named := ["recant/text.kinds"], apart := false, laid := [("recant/text.kinds", laid_recant_text_kinds)] }
def TableFindsSaid : Prop := tableFindsRow.holds Tryd.pinned (OpenSpec.ofChange tableFindsSpec)

/-- ITS FALSE NEIGHBOUR: 'it returns false'. Refute it at one input. -/
def tableFindsWrong : ChangeSpec := { name := "tableFinds", fn := fun _ => fun
  | [d1, d2, d3] => { results := [.lit (.bool false)], args := [d1, d2, d3] }
  | _ => none }
def TableFindsWrongFalsely : Prop := tableFindsRow.holds Tryd.pinned (OpenSpec.ofChange tableFindsWrong)

/-- 'recantlaw08.PrefixSerial': WHATEVER THE INPUT: true; the input reads as it did. -/
def prefixSerialSpec : ChangeSpec := { name := "prefixSerial", fn := fun _ => fun
  | [d] => { results := [.lit (.bool true)], args := [d] }
  | _ => none }
def prefixSerialRow : OpenClaim := { program := "ytkjkceeopkfniaadoor", sum := "22a24cac8b3ed72b1ceb49ffa8f12331fb6b8db98affcaaa7b34eb729fee3efd", func := "recant/recantlaw08.PrefixSerial", spec := "prefixSerial", unfollowed := true, recurses := true, named := ["recant/text.kinds"], apart := false, laid := [("recant/text.kinds", laid_recant_text_kinds)] }
def PrefixSerialSaid : Prop := prefixSerialRow.holds Tryd.pinned (OpenSpec.ofChange prefixSerialSpec)

/-- ITS FALSE NEIGHBOUR: 'it returns false'. Refute it at one input. -/
def prefixSerialWrong : ChangeSpec := { name := "prefixSerial", fn := fun _ => fun
  | [d] => { results := [.lit (.bool false)], args := [d] }
  | _ => none }
def PrefixSerialWrongFalsely : Prop := prefixSerialRow.holds Tryd.pinned (OpenSpec.ofChange prefixSerialWrong)

/-- 'recantlaw10.LegalOwn': WHATEVER THE INPUT: true; the input reads as it did. -/
def legalOwnSpec : ChangeSpec := { name := "legalOwn", fn := fun _ => fun
  | [d1, d2] => { results := [.lit (.bool true)], args := [d1, d2] }
  | _ => none }
def legalOwnRow : OpenClaim := { program := "ytkjkceeopkfniaadoor", sum := "22a24cac8b3ed72b1ceb49ffa8f12331fb6b8db98affcaaa7b34eb729fee3efd", func := "recant/recantlaw10.LegalOwn", spec := "legalOwn", unfollowed := true, recurses := true, named := ["recant/text.kinds"], apart := false, laid := [("recant/text.kinds", laid_recant_text_kinds)] }
def LegalOwnSaid : Prop := legalOwnRow.holds Tryd.pinned (OpenSpec.ofChange legalOwnSpec)

/-- ITS FALSE NEIGHBOUR: 'it returns false'. Refute it at one input. -/
def legalOwnWrong : ChangeSpec := { name := "legalOwn", fn := fun _ => fun
  | [d1, d2] => { results := [.lit (.bool false)], args := [d1, d2] }
  | _ => none }
def LegalOwnWrongFalsely : Prop := legalOwnRow.holds Tryd.pinned (OpenSpec.ofChange legalOwnWrong)

/-- 'recantlaw10.LegalRows': WHATEVER THE INPUT: true; the input reads as it did. -/
def legalRowsSpec : ChangeSpec := { name := "legalRows", fn := fun _ => fun
  | [d1, d2, d3] => { results := [.lit (.bool true)], args := [d1, d2, d3] }
  | _ => none }
def legalRowsRow : OpenClaim := { program := "ytkjkceeopkfniaadoor", sum := "22a24cac8b3ed72b1ceb49ffa8f12331fb6b8db98affcaaa7b34eb729fee3efd", func := "recant/recantlaw10.LegalRows", spec := "legalRows", unfollowed := true, recurses := true, named := ["recant/text.kinds"], apart := false, laid := [("recant/text.kinds", laid_recant_text_kinds)] }
def LegalRowsSaid : Prop := legalRowsRow.holds Tryd.pinned (OpenSpec.ofChange legalRowsSpec)

/-- ITS FALSE NEIGHBOUR: 'it returns false'. Refute it at one input. -/
def legalRowsWrong : ChangeSpec := { name := "legalRows", fn := fun _ => fun
  | [d1, d2, d3] => { results := [.lit (.bool false)], args := [d1, d2, d3] }
  | _ => none }
def LegalRowsWrongFalsely : Prop := legalRowsRow.holds Tryd.pinned (OpenSpec.ofChange legalRowsWrong)

/-- 'recantlaw10.LegalSwap': WHATEVER THE INPUT: true; the input reads as it did. -/
def legalSwapSpec : ChangeSpec := { name := "legalSwap", fn := fun _ => fun
  | [d1, d2, d3, d4] => { results := [.lit (.bool true)], args := [d1, d2, d3, d4] }
  | _ => none }
def legalSwapRow : OpenClaim := { program := "ytkjkceeopkfniaadoor", sum := "22a24cac8b3ed72b1ceb49ffa8f12331fb6b8db98affcaaa7b34eb729fee3efd", func := "recant/recantlaw10.LegalSwap", spec := "legalSwap", unfollowed := true, recurses := true, named := ["recant/text.kinds"], apart := false, laid := [("recant/text.kinds", laid_recant_text_kinds)] }
def LegalSwapSaid : Prop := legalSwapRow.holds Tryd.pinned (OpenSpec.ofChange legalSwapSpec)

/-- ITS FALSE NEIGHBOUR: 'it returns false'. Refute it at one input. -/
def legalSwapWrong : ChangeSpec := { name := "legalSwap", fn := fun _ => fun
  | [d1, d2, d3, d4] => { results := [.lit (.bool false)], args := [d1, d2, d3, d4] }
  | _ => none }
def LegalSwapWrongFalsely : Prop := legalSwapRow.holds Tryd.pinned (OpenSpec.ofChange legalSwapWrong)

/-- 'recantlaw21.MachineDoes': WHATEVER THE INPUT: true; the input reads as it did. -/
def machineDoesSpec : ChangeSpec := { name := "machineDoes", fn := fun _ => fun
  | [d1, d2, d3, d4] => { results := [.lit (.bool true)], args := [d1, d2, d3, d4] }
  | _ => none }
def machineDoesRow : OpenClaim := { program := "ytkjkceeopkfniaadoor", sum := "22a24cac8b3ed72b1ceb49ffa8f12331fb6b8db98affcaaa7b34eb729fee3efd", func := "recant/recantlaw21.MachineDoes", spec := "machineDoes", unfollowed := true, recurses := true, named := ["recant/text.kinds"], apart := false, laid := [("recant/text.kinds", laid_recant_text_kinds)] }
def MachineDoesSaid : Prop := machineDoesRow.holds Tryd.pinned (OpenSpec.ofChange machineDoesSpec)

/-- ITS FALSE NEIGHBOUR: 'it returns false'. Refute it at one input. -/
def machineDoesWrong : ChangeSpec := { name := "machineDoes", fn := fun _ => fun
  | [d1, d2, d3, d4] => { results := [.lit (.bool false)], args := [d1, d2, d3, d4] }
  | _ => none }
def MachineDoesWrongFalsely : Prop := machineDoesRow.holds Tryd.pinned (OpenSpec.ofChange machineDoesWrong)

/-- 'recantlaw08.PrefixHolds': WHATEVER THE INPUT: true; the input reads as it did. -/
def prefixHoldsSpec : ChangeSpec := { name := "prefixHolds", fn := fun _ => fun
  | [d1, d2, d3] => { results := [.lit (.bool true)], args := [d1, d2, d3] }
  | _ => none }
def prefixHoldsRow : OpenClaim := { program := "ytkjkceeopkfniaadoor", sum := "22a24cac8b3ed72b1ceb49ffa8f12331fb6b8db98affcaaa7b34eb729fee3efd", func := "recant/recantlaw08.PrefixHolds", spec := "prefixHolds", unfollowed := true, recurses := true, named := ["recant/text.kinds"], apart := false, laid := [("recant/text.kinds", laid_recant_text_kinds)] }
def PrefixHoldsSaid : Prop := prefixHoldsRow.holds Tryd.pinned (OpenSpec.ofChange prefixHoldsSpec)

/-- ITS FALSE NEIGHBOUR: 'it returns false'. Refute it at one input. -/
def prefixHoldsWrong : ChangeSpec := { name := "prefixHolds", fn := fun _ => fun
  | [d1, d2, d3] => { results := [.lit (.bool false)], args := [d1, d2, d3] }
  | _ => none }
def PrefixHoldsWrongFalsely : Prop := prefixHoldsRow.holds Tryd.pinned (OpenSpec.ofChange prefixHoldsWrong)

/-- 'recantlaw10.LegalShort': WHATEVER THE INPUT: true; the input reads as it did. -/
def legalShortSpec : ChangeSpec := { name := "legalShort", fn := fun _ => fun
  | [d1, d2, d3, d4] => { results := [.lit (.bool true)], args := [d1, d2, d3, d4] }
  | _ => none }
def legalShortRow : OpenClaim := { program := "ytkjkceeopkfniaadoor", sum := "22a24cac8b3ed72b1ceb49ffa8f12331fb6b8db98affcaaa7b34eb729fee3efd", func := "recant/recantlaw10.LegalShort", spec := "legalShort", unfollowed := true, recurses := true, named := ["recant/text.kinds"], apart := false, laid := [("recant/text.kinds", laid_recant_text_kinds)] }
def LegalShortSaid : Prop := legalShortRow.holds Tryd.pinned (OpenSpec.ofChange legalShortSpec)

/-- ITS FALSE NEIGHBOUR: 'it returns false'. Refute it at one input. -/
def legalShortWrong : ChangeSpec := { name := "legalShort", fn := fun _ => fun
  | [d1, d2, d3, d4] => { results := [.lit (.bool false)], args := [d1, d2, d3, d4] }
  | _ => none }
def LegalShortWrongFalsely : Prop := legalShortRow.holds Tryd.pinned (OpenSpec.ofChange legalShortWrong)

/-- 'recantlaw08.PrefixCuts': WHATEVER THE INPUT: true; the input reads as it did. -/
def prefixCutsSpec : ChangeSpec := { name := "prefixCuts", fn := fun _ => fun
  | [d1, d2, d3, d4] => { results := [.lit (.bool true)], args := [d1, d2, d3, d4] }
  | _ => none }
def prefixCutsRow : OpenClaim := { program := "ytkjkceeopkfniaadoor", sum := "22a24cac8b3ed72b1ceb49ffa8f12331fb6b8db98affcaaa7b34eb729fee3efd", func := "recant/recantlaw08.PrefixCuts", spec := "prefixCuts", unfollowed := true, recurses := true, named := ["recant/text.kinds"], apart := false, laid := [("recant/text.kinds", laid_recant_text_kinds)] }
def PrefixCutsSaid : Prop := prefixCutsRow.holds Tryd.pinned (OpenSpec.ofChange prefixCutsSpec)

/-- ITS FALSE NEIGHBOUR: 'it returns false'. Refute it at one input. -/
def prefixCutsWrong : ChangeSpec := { name := "prefixCuts", fn := fun _ => fun
  | [d1, d2, d3, d4] => { results := [.lit (.bool false)], args := [d1, d2, d3, d4] }
  | _ => none }
def PrefixCutsWrongFalsely : Prop := prefixCutsRow.holds Tryd.pinned (OpenSpec.ofChange prefixCutsWrong)

/-- 'recantlaw21.MachineRight': WHATEVER THE INPUT: true; the input reads as it did. -/
def machineRightSpec : ChangeSpec := { name := "machineRight", fn := fun _ => fun
  | [d1, d2, d3, d4] => { results := [.lit (.bool true)], args := [d1, d2, d3, d4] }
  | _ => none }
def machineRightRow : OpenClaim := { program := "ytkjkceeopkfniaadoor", sum := "22a24cac8b3ed72b1ceb49ffa8f12331fb6b8db98affcaaa7b34eb729fee3efd", func := "recant/recantlaw21.MachineRight", spec := "machineRight", unfollowed := true, recurses := true, named := ["recant/text.kinds"], apart := false, laid := [("recant/text.kinds", laid_recant_text_kinds)] }
def MachineRightSaid : Prop := machineRightRow.holds Tryd.pinned (OpenSpec.ofChange machineRightSpec)

/-- ITS FALSE NEIGHBOUR: 'it returns false'. Refute it at one input. -/
def machineRightWrong : ChangeSpec := { name := "machineRight", fn := fun _ => fun
  | [d1, d2, d3, d4] => { results := [.lit (.bool false)], args := [d1, d2, d3, d4] }
  | _ => none }
def MachineRightWrongFalsely : Prop := machineRightRow.holds Tryd.pinned (OpenSpec.ofChange machineRightWrong)

/-- 'recantlaw21.MachineTakes': WHATEVER THE INPUT: true; the input reads as it did. -/
def machineTakesSpec : ChangeSpec := { name := "machineTakes", fn := fun _ => fun
  | [d1, d2, d3] => { results := [.lit (.bool true)], args := [d1, d2, d3] }
  | _ => none }
def machineTakesRow : OpenClaim := { program := "ytkjkceeopkfniaadoor", sum := "22a24cac8b3ed72b1ceb49ffa8f12331fb6b8db98affcaaa7b34eb729fee3efd", func := "recant/recantlaw21.MachineTakes", spec := "machineTakes", unfollowed := true, recurses := true, named := ["recant/text.kinds"], apart := false, laid := [("recant/text.kinds", laid_recant_text_kinds)] }
def MachineTakesSaid : Prop := machineTakesRow.holds Tryd.pinned (OpenSpec.ofChange machineTakesSpec)

/-- ITS FALSE NEIGHBOUR: 'it returns false'. Refute it at one input. -/
def machineTakesWrong : ChangeSpec := { name := "machineTakes", fn := fun _ => fun
  | [d1, d2, d3] => { results := [.lit (.bool false)], args := [d1, d2, d3] }
  | _ => none }
def MachineTakesWrongFalsely : Prop := machineTakesRow.holds Tryd.pinned (OpenSpec.ofChange machineTakesWrong)

/-- 'recantlaw21.MachineStays': WHATEVER THE INPUT: true; the input reads as it did. -/
def machineStaysSpec : ChangeSpec := { name := "machineStays", fn := fun _ => fun
  | [d1, d2, d3, d4] => { results := [.lit (.bool true)], args := [d1, d2, d3, d4] }
  | _ => none }
def machineStaysRow : OpenClaim := { program := "ytkjkceeopkfniaadoor", sum := "22a24cac8b3ed72b1ceb49ffa8f12331fb6b8db98affcaaa7b34eb729fee3efd", func := "recant/recantlaw21.MachineStays", spec := "machineStays", unfollowed := true, recurses := true, named := ["recant/text.kinds"], apart := false, laid := [("recant/text.kinds", laid_recant_text_kinds)] }
def MachineStaysSaid : Prop := machineStaysRow.holds Tryd.pinned (OpenSpec.ofChange machineStaysSpec)

/-- ITS FALSE NEIGHBOUR: 'it returns false'. Refute it at one input. -/
def machineStaysWrong : ChangeSpec := { name := "machineStays", fn := fun _ => fun
  | [d1, d2, d3, d4] => { results := [.lit (.bool false)], args := [d1, d2, d3, d4] }
  | _ => none }
def MachineStaysWrongFalsely : Prop := machineStaysRow.holds Tryd.pinned (OpenSpec.ofChange machineStaysWrong)

/- THE SECOND FORM. 'bulk': how many values and letters a reading holds, each counted each time it is reached (what is shared counts as often as it is met; a slice's spare places count too). A statement '..UptoSaid' is the law's where the arguments, and the package variables that the reading takes, are together of bulk at most 1048576: NARROWER than '..Said'. Prove '..Said' where nothing that the law and all that it calls make is longer than what came in: it says more and counts as full. Else prove '..UptoSaid'. A law counts once. -/
mutual
def uptoBulk {H : Type} : DataW H → Nat
  | .lit (.string bytes) => bytes.length + 1
  | .lit _ => 1
  | .nil => 1
  | .ptr d => uptoBulk d + 1
  | .slice elems spare => uptoBulkAll elems + uptoBulkAll spare + 1
  | .agg parts => uptoBulkAll parts + 1
  | .iface _ d => uptoBulk d + 1
  | .map entries => uptoBulkEntries entries + 1
  | .held _ => 1
def uptoBulkAll {H : Type} : List (DataW H) → Nat
  | [] => 0
  | d :: r => uptoBulk d + uptoBulkAll r
def uptoBulkEntries {H : Type} : List (Lit × DataW H) → Nat
  | [] => 0
  | x :: r => uptoBulkEntry x + uptoBulkEntries r
def uptoBulkEntry {H : Type} : Lit × DataW H → Nat
  | (.string bytes, d) => bytes.length + uptoBulk d + 1
  | (_, d) => uptoBulk d + 1
 end
def uptoSmall : (H : Type) → List (DataW H) → Bool := fun _ ds => decide (uptoBulkAll ds ≤ 1048576)
def OpenSpec.upto (s : _root_.Go.ChangeSpec) : _root_.Go.OpenSpec := { _root_.Go.OpenSpec.ofChange s with cond := some uptoSmall }

/-- 'recantlaw06.TableTells', WHERE WHAT IT READS IS OF BULK AT MOST 1048576: true; the input reads as it did. -/
def tableTellsUptoRow : OpenClaim := { program := "ytkjkceeopkfniaadoor", sum := "22a24cac8b3ed72b1ceb49ffa8f12331fb6b8db98affcaaa7b34eb729fee3efd", func := "recant/recantlaw06.TableTells", spec := "tableTells", unfollowed := true, recurses := true, named := ["recant/text.kinds"], apart := false, laid := [("recant/text.kinds", laid_recant_text_kinds)], narrowed := true }
def TableTellsUptoSaid : Prop := tableTellsUptoRow.holds Tryd.pinned (OpenSpec.upto tableTellsSpec)

/-- 'recantlaw06.TableGrows', WHERE WHAT IT READS IS OF BULK AT MOST 1048576: true; the input reads as it did. -/
def tableGrowsUptoRow : OpenClaim := { program := "ytkjkceeopkfniaadoor", sum := "22a24cac8b3ed72b1ceb49ffa8f12331fb6b8db98affcaaa7b34eb729fee3efd", func := "recant/recantlaw06.TableGrows", spec := "tableGrows", unfollowed := true, recurses := true, named := ["recant/text.kinds"], apart := false, laid := [("recant/text.kinds", laid_recant_text_kinds)], narrowed := true }
def TableGrowsUptoSaid : Prop := tableGrowsUptoRow.holds Tryd.pinned (OpenSpec.upto tableGrowsSpec)

/-- 'recantlaw06.TableAlone', WHERE WHAT IT READS IS OF BULK AT MOST 1048576: true; the input reads as it did. -/
def tableAloneUptoRow : OpenClaim := { program := "ytkjkceeopkfniaadoor", sum := "22a24cac8b3ed72b1ceb49ffa8f12331fb6b8db98affcaaa7b34eb729fee3efd", func := "recant/recantlaw06.TableAlone", spec := "tableAlone", unfollowed := true, recurses := true, named := ["recant/text.kinds"], apart := false, laid := [("recant/text.kinds", laid_recant_text_kinds)], narrowed := true }
def TableAloneUptoSaid : Prop := tableAloneUptoRow.holds Tryd.pinned (OpenSpec.upto tableAloneSpec)

/-- 'recantlaw06.TableFinds', WHERE WHAT IT READS IS OF BULK AT MOST 1048576: true; the input reads as it did. -/
def tableFindsUptoRow : OpenClaim := { program := "ytkjkceeopkfniaadoor", sum := "22a24cac8b3ed72b1ceb49ffa8f12331fb6b8db98affcaaa7b34eb729fee3efd", func := "recant/recantlaw06.TableFinds", spec := "tableFinds", unfollowed := true, recurses := true, named := ["recant/text.kinds"], apart := false, laid := [("recant/text.kinds", laid_recant_text_kinds)], narrowed := true }
def TableFindsUptoSaid : Prop := tableFindsUptoRow.holds Tryd.pinned (OpenSpec.upto tableFindsSpec)

/-- 'recantlaw08.PrefixSerial', WHERE WHAT IT READS IS OF BULK AT MOST 1048576: true; the input reads as it did. -/
def prefixSerialUptoRow : OpenClaim := { program := "ytkjkceeopkfniaadoor", sum := "22a24cac8b3ed72b1ceb49ffa8f12331fb6b8db98affcaaa7b34eb729fee3efd", func := "recant/recantlaw08.PrefixSerial", spec := "prefixSerial", unfollowed := true, recurses := true, named := ["recant/text.kinds"], apart := false, laid := [("recant/text.kinds", laid_recant_text_kinds)], narrowed := true }
def PrefixSerialUptoSaid : Prop := prefixSerialUptoRow.holds Tryd.pinned (OpenSpec.upto prefixSerialSpec)

/-- 'recantlaw10.LegalOwn', WHERE WHAT IT READS IS OF BULK AT MOST 1048576: true; the input reads as it did. -/
def legalOwnUptoRow : OpenClaim := { program := "ytkjkceeopkfniaadoor", sum := "22a24cac8b3ed72b1ceb49ffa8f12331fb6b8db98affcaaa7b34eb729fee3efd", func := "recant/recantlaw10.LegalOwn", spec := "legalOwn", unfollowed := true, recurses := true, named := ["recant/text.kinds"], apart := false, laid := [("recant/text.kinds", laid_recant_text_kinds)], narrowed := true }
def LegalOwnUptoSaid : Prop := legalOwnUptoRow.holds Tryd.pinned (OpenSpec.upto legalOwnSpec)

/-- 'recantlaw10.LegalRows', WHERE WHAT IT READS IS OF BULK AT MOST 1048576: true; the input reads as it did. -/
def legalRowsUptoRow : OpenClaim := { program := "ytkjkceeopkfniaadoor", sum := "22a24cac8b3ed72b1ceb49ffa8f12331fb6b8db98affcaaa7b34eb729fee3efd", func := "recant/recantlaw10.LegalRows", spec := "legalRows", unfollowed := true, recurses := true, named := ["recant/text.kinds"], apart := false, laid := [("recant/text.kinds", laid_recant_text_kinds)], narrowed := true }
def LegalRowsUptoSaid : Prop := legalRowsUptoRow.holds Tryd.pinned (OpenSpec.upto legalRowsSpec)

/-- 'recantlaw10.LegalSwap', WHERE WHAT IT READS IS OF BULK AT MOST 1048576: true; the input reads as it did. -/
def legalSwapUptoRow : OpenClaim := { program := "ytkjkceeopkfniaadoor", sum := "22a24cac8b3ed72b1ceb49ffa8f12331fb6b8db98affcaaa7b34eb729fee3efd", func := "recant/recantlaw10.LegalSwap", spec := "legalSwap", unfollowed := true, recurses := true, named := ["recant/text.kinds"], apart := false, laid := [("recant/text.kinds", laid_recant_text_kinds)], narrowed := true }
def LegalSwapUptoSaid : Prop := legalSwapUptoRow.holds Tryd.pinned (OpenSpec.upto legalSwapSpec)

/-- 'recantlaw21.MachineDoes', WHERE WHAT IT READS IS OF BULK AT MOST 1048576: true; the input reads as it did. -/
def machineDoesUptoRow : OpenClaim := { program := "ytkjkceeopkfniaadoor", sum := "22a24cac8b3ed72b1ceb49ffa8f12331fb6b8db98affcaaa7b34eb729fee3efd", func := "recant/recantlaw21.MachineDoes", spec := "machineDoes", unfollowed := true, recurses := true, named := ["recant/text.kinds"], apart := false, laid := [("recant/text.kinds", laid_recant_text_kinds)], narrowed := true }
def MachineDoesUptoSaid : Prop := machineDoesUptoRow.holds Tryd.pinned (OpenSpec.upto machineDoesSpec)

/-- 'recantlaw08.PrefixHolds', WHERE WHAT IT READS IS OF BULK AT MOST 1048576: true; the input reads as it did. -/
def prefixHoldsUptoRow : OpenClaim := { program := "ytkjkceeopkfniaadoor", sum := "22a24cac8b3ed72b1ceb49ffa8f12331fb6b8db98affcaaa7b34eb729fee3efd", func := "recant/recantlaw08.PrefixHolds", spec := "prefixHolds", unfollowed := true, recurses := true, named := ["recant/text.kinds"], apart := false, laid := [("recant/text.kinds", laid_recant_text_kinds)], narrowed := true }
def PrefixHoldsUptoSaid : Prop := prefixHoldsUptoRow.holds Tryd.pinned (OpenSpec.upto prefixHoldsSpec)

/-- 'recantlaw10.LegalShort', WHERE WHAT IT READS IS OF BULK AT MOST 1048576: true; the input reads as it did. -/
def legalShortUptoRow : OpenClaim := { program := "ytkjkceeopkfniaadoor", sum := "22a24cac8b3ed72b1ceb49ffa8f12331fb6b8db98affcaaa7b34eb729fee3efd", func := "recant/recantlaw10.LegalShort", spec := "legalShort", unfollowed := true, recurses := true, named := ["recant/text.kinds"], apart := false, laid := [("recant/text.kinds", laid_recant_text_kinds)], narrowed := true }
def LegalShortUptoSaid : Prop := legalShortUptoRow.holds Tryd.pinned (OpenSpec.upto legalShortSpec)

/-- 'recantlaw08.PrefixCuts', WHERE WHAT IT READS IS OF BULK AT MOST 1048576: true; the input reads as it did. -/
def prefixCutsUptoRow : OpenClaim := { program := "ytkjkceeopkfniaadoor", sum := "22a24cac8b3ed72b1ceb49ffa8f12331fb6b8db98affcaaa7b34eb729fee3efd", func := "recant/recantlaw08.PrefixCuts", spec := "prefixCuts", unfollowed := true, recurses := true, named := ["recant/text.kinds"], apart := false, laid := [("recant/text.kinds", laid_recant_text_kinds)], narrowed := true }
def PrefixCutsUptoSaid : Prop := prefixCutsUptoRow.holds Tryd.pinned (OpenSpec.upto prefixCutsSpec)

/-- 'recantlaw21.MachineRight', WHERE WHAT IT READS IS OF BULK AT MOST 1048576: true; the input reads as it did. -/
def machineRightUptoRow : OpenClaim := { program := "ytkjkceeopkfniaadoor", sum := "22a24cac8b3ed72b1ceb49ffa8f12331fb6b8db98affcaaa7b34eb729fee3efd", func := "recant/recantlaw21.MachineRight", spec := "machineRight", unfollowed := true, recurses := true, named := ["recant/text.kinds"], apart := false, laid := [("recant/text.kinds", laid_recant_text_kinds)], narrowed := true }
def MachineRightUptoSaid : Prop := machineRightUptoRow.holds Tryd.pinned (OpenSpec.upto machineRightSpec)

/-- 'recantlaw21.MachineTakes', WHERE WHAT IT READS IS OF BULK AT MOST 1048576: true; the input reads as it did. -/
def machineTakesUptoRow : OpenClaim := { program := "ytkjkceeopkfniaadoor", sum := "22a24cac8b3ed72b1ceb49ffa8f12331fb6b8db98affcaaa7b34eb729fee3efd", func := "recant/recantlaw21.MachineTakes", spec := "machineTakes", unfollowed := true, recurses := true, named := ["recant/text.kinds"], apart := false, laid := [("recant/text.kinds", laid_recant_text_kinds)], narrowed := true }
def MachineTakesUptoSaid : Prop := machineTakesUptoRow.holds Tryd.pinned (OpenSpec.upto machineTakesSpec)

/-- 'recantlaw21.MachineStays', WHERE WHAT IT READS IS OF BULK AT MOST 1048576: true; the input reads as it did. -/
def machineStaysUptoRow : OpenClaim := { program := "ytkjkceeopkfniaadoor", sum := "22a24cac8b3ed72b1ceb49ffa8f12331fb6b8db98affcaaa7b34eb729fee3efd", func := "recant/recantlaw21.MachineStays", spec := "machineStays", unfollowed := true, recurses := true, named := ["recant/text.kinds"], apart := false, laid := [("recant/text.kinds", laid_recant_text_kinds)], narrowed := true }
def MachineStaysUptoSaid : Prop := machineStaysUptoRow.holds Tryd.pinned (OpenSpec.upto machineStaysSpec)

end Rows
end Go.Proofs.YtkjkceeopkfniaaDoor

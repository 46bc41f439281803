/-
  No cell of these rows narrows 'for every input' (looked for: loops, veiled, ifaces, maps, wideKeys, modest, calm, conditions, laid).
  DERIVED. THE GIVEN ROWS OF THIS SEAT. 7 by the template 'for every input the law returns true; each argument reads behind the call as it read before'; 0 by the template 'total and deterministic' (their statements: YthkpocgbinmeiaaTotals.lean).
  GIVEN WITH THE SEED: the statements are not yours to turn. If you find one false, say at which input.
  Laid BY PROGRAM, IN A SANDBOX (cutbox-rows.mjs): the forced cells as the released guide's own fill.sh prints them over the translation 51d8d47fb1113807… (all of the seat's roots in one cut). By AI agents, Wed Nov 11 2026. No macro, syntax, notation, axiom, sorry.
-/
import Derived.Test.YthkpocgbinmeiaaChecked
import GoSem.Claim
import GoSem.ClaimJoined
import GoSem.ClaimMapViews
import Derived.JoinedTies
import Derived.KernelRfl
namespace Go.Proofs.Ythkpocgbinmeiaa
/- THE CELL 'sum', in the pinned program and in every row, IS THE sha256 OF THE DUMP (.gsa) THAT YthkpocgbinmeiaaProg.lean LOADS. Nothing in Lean hashes anything: it is a label: what it is worth is what the hold of that sum in a sandbox is worth. -/
noncomputable def Try.pinned : Pinned := { name := "ythkpocgbinmeiaa", sum := "51d8d47fb11138075b06ede945110fa2f28893ae89d3bb81b4748693a2064b82", checked := Try.checked }
namespace Rows
def none {H : Type} : Left H := { results := [], args := [] }

/-- 'recantlaw03.VarintGets': WHATEVER THE INPUT: true; the input reads as it did. -/
def varintGetsSpec : ChangeSpec := { name := "varintGets", fn := fun _ => fun
  | [d1, d2] => { results := [.lit (.bool true)], args := [d1, d2] }
  | _ => none }
def varintGetsRow : OpenClaim := { program := "ythkpocgbinmeiaa", sum := "51d8d47fb11138075b06ede945110fa2f28893ae89d3bb81b4748693a2064b82", func := "recant/recantlaw03.VarintGets", spec := "varintGets", apart := false }
def VarintGetsSaid : Prop := varintGetsRow.holds Try.pinned (OpenSpec.ofChange varintGetsSpec)

/-- ITS FALSE NEIGHBOUR: 'it returns false'. Refute it at one input. -/
def varintGetsWrong : ChangeSpec := { name := "varintGets", fn := fun _ => fun
  | [d1, d2] => { results := [.lit (.bool false)], args := [d1, d2] }
  | _ => none }
def VarintGetsWrongFalsely : Prop := varintGetsRow.holds Try.pinned (OpenSpec.ofChange varintGetsWrong)

/-- 'recantlaw03.VarintPuts': WHATEVER THE INPUT: true; the input reads as it did. -/
def varintPutsSpec : ChangeSpec := { name := "varintPuts", fn := fun _ => fun
  | [d1, d2] => { results := [.lit (.bool true)], args := [d1, d2] }
  | _ => none }
def varintPutsRow : OpenClaim := { program := "ythkpocgbinmeiaa", sum := "51d8d47fb11138075b06ede945110fa2f28893ae89d3bb81b4748693a2064b82", func := "recant/recantlaw03.VarintPuts", spec := "varintPuts", unfollowed := true, recurses := true, apart := false }
def VarintPutsSaid : Prop := varintPutsRow.holds Try.pinned (OpenSpec.ofChange varintPutsSpec)

/-- ITS FALSE NEIGHBOUR: 'it returns false'. Refute it at one input. -/
def varintPutsWrong : ChangeSpec := { name := "varintPuts", fn := fun _ => fun
  | [d1, d2] => { results := [.lit (.bool false)], args := [d1, d2] }
  | _ => none }
def VarintPutsWrongFalsely : Prop := varintPutsRow.holds Try.pinned (OpenSpec.ofChange varintPutsWrong)

/-- 'recantlaw03.VarintLength': WHATEVER THE INPUT: true; the input reads as it did. -/
def varintLengthSpec : ChangeSpec := { name := "varintLength", fn := fun _ => fun
  | [d1, d2] => { results := [.lit (.bool true)], args := [d1, d2] }
  | _ => none }
def varintLengthRow : OpenClaim := { program := "ythkpocgbinmeiaa", sum := "51d8d47fb11138075b06ede945110fa2f28893ae89d3bb81b4748693a2064b82", func := "recant/recantlaw03.VarintLength", spec := "varintLength", unfollowed := true, recurses := true, apart := false }
def VarintLengthSaid : Prop := varintLengthRow.holds Try.pinned (OpenSpec.ofChange varintLengthSpec)

/-- ITS FALSE NEIGHBOUR: 'it returns false'. Refute it at one input. -/
def varintLengthWrong : ChangeSpec := { name := "varintLength", fn := fun _ => fun
  | [d1, d2] => { results := [.lit (.bool false)], args := [d1, d2] }
  | _ => none }
def VarintLengthWrongFalsely : Prop := varintLengthRow.holds Try.pinned (OpenSpec.ofChange varintLengthWrong)

/-- 'recantlaw03.VarintBack': WHATEVER THE INPUT: true; the input reads as it did. -/
def varintBackSpec : ChangeSpec := { name := "varintBack", fn := fun _ => fun
  | [d1, d2, d3, d4] => { results := [.lit (.bool true)], args := [d1, d2, d3, d4] }
  | _ => none }
def varintBackRow : OpenClaim := { program := "ythkpocgbinmeiaa", sum := "51d8d47fb11138075b06ede945110fa2f28893ae89d3bb81b4748693a2064b82", func := "recant/recantlaw03.VarintBack", spec := "varintBack", unfollowed := true, recurses := true, apart := false }
def VarintBackSaid : Prop := varintBackRow.holds Try.pinned (OpenSpec.ofChange varintBackSpec)

/-- ITS FALSE NEIGHBOUR: 'it returns false'. Refute it at one input. -/
def varintBackWrong : ChangeSpec := { name := "varintBack", fn := fun _ => fun
  | [d1, d2, d3, d4] => { results := [.lit (.bool false)], args := [d1, d2, d3, d4] }
  | _ => none }
def VarintBackWrongFalsely : Prop := varintBackRow.holds Try.pinned (OpenSpec.ofChange varintBackWrong)

/-- 'recantlaw04.BinaryReads': WHATEVER THE INPUT: true; the input reads as it did. -/
def binaryReadsSpec : ChangeSpec := { name := "binaryReads", fn := fun _ => fun
  | [d] => { results := [.lit (.bool true)], args := [d] }
  | _ => none }
def binaryReadsRow : OpenClaim := { program := "ythkpocgbinmeiaa", sum := "51d8d47fb11138075b06ede945110fa2f28893ae89d3bb81b4748693a2064b82", func := "recant/recantlaw04.BinaryReads", spec := "binaryReads", apart := false }
def BinaryReadsSaid : Prop := binaryReadsRow.holds Try.pinned (OpenSpec.ofChange binaryReadsSpec)

/-- ITS FALSE NEIGHBOUR: 'it returns false'. Refute it at one input. -/
def binaryReadsWrong : ChangeSpec := { name := "binaryReads", fn := fun _ => fun
  | [d] => { results := [.lit (.bool false)], args := [d] }
  | _ => none }
def BinaryReadsWrongFalsely : Prop := binaryReadsRow.holds Try.pinned (OpenSpec.ofChange binaryReadsWrong)

/-- 'recantlaw01.WordLines': WHATEVER THE INPUT: true; the input reads as it did. -/
def wordLinesSpec : ChangeSpec := { name := "wordLines", fn := fun _ => fun
  | [d] => { results := [.lit (.bool true)], args := [d] }
  | _ => none }
def wordLinesRow : OpenClaim := { program := "ythkpocgbinmeiaa", sum := "51d8d47fb11138075b06ede945110fa2f28893ae89d3bb81b4748693a2064b82", func := "recant/recantlaw01.WordLines", spec := "wordLines", inPlace := ["internal/bytealg.IndexByteString", "internal/bytealg.IndexString"], unfollowed := true, recurses := true, named := ["internal/bytealg.MaxLen"], apart := false }
def WordLinesSaid : Prop := wordLinesRow.holds Try.pinned (OpenSpec.ofChange wordLinesSpec)

/-- ITS FALSE NEIGHBOUR: 'it returns false'. Refute it at one input. -/
def wordLinesWrong : ChangeSpec := { name := "wordLines", fn := fun _ => fun
  | [d] => { results := [.lit (.bool false)], args := [d] }
  | _ => none }
def WordLinesWrongFalsely : Prop := wordLinesRow.holds Try.pinned (OpenSpec.ofChange wordLinesWrong)

/-- 'recantlaw01.WordBlank': WHATEVER THE INPUT: true; the input reads as it did. -/
def wordBlankSpec : ChangeSpec := { name := "wordBlank", fn := fun _ => fun
  | [d] => { results := [.lit (.bool true)], args := [d] }
  | _ => none }
def wordBlankRow : OpenClaim := { program := "ythkpocgbinmeiaa", sum := "51d8d47fb11138075b06ede945110fa2f28893ae89d3bb81b4748693a2064b82", func := "recant/recantlaw01.WordBlank", spec := "wordBlank", inPlace := ["internal/bytealg.IndexByteString", "internal/bytealg.IndexString"], unfollowed := true, recurses := true, named := ["internal/bytealg.MaxLen"], apart := false }
def WordBlankSaid : Prop := wordBlankRow.holds Try.pinned (OpenSpec.ofChange wordBlankSpec)

/-- ITS FALSE NEIGHBOUR: 'it returns false'. Refute it at one input. -/
def wordBlankWrong : ChangeSpec := { name := "wordBlank", fn := fun _ => fun
  | [d] => { results := [.lit (.bool false)], args := [d] }
  | _ => none }
def WordBlankWrongFalsely : Prop := wordBlankRow.holds Try.pinned (OpenSpec.ofChange wordBlankWrong)

/- THE SECOND FORM. 'bulk': how many values and letters a reading holds, each counted each time it is reached (what is shared counts as often as it is met; a slice's spare places count too). A statement '..UptoSaid' is the law's where the arguments, and the package variables that the reading takes, are together of bulk at most 1048576: NARROWER than '..Said'. Prove '..Said' where nothing that the law and all that it calls make is longer than what came in: it says more and counts as full. Else prove '..UptoSaid'. A law counts once. -/
mutual
def uptoBulk {H : Type} : DataW H → Nat
  | .lit (.string bytes) => bytes.length + 1
  | .lit _ => 1
  | .nil => 1
  | .ptr d => uptoBulk d + 1
  | .slice elems spare => uptoBulkAll elems + uptoBulkAll spare + 1
  | .agg parts => uptoBulkAll parts + 1
  | .iface _ d => uptoBulk d + 1
  | .map entries => uptoBulkEntries entries + 1
  | .held _ => 1
def uptoBulkAll {H : Type} : List (DataW H) → Nat
  | [] => 0
  | d :: r => uptoBulk d + uptoBulkAll r
def uptoBulkEntries {H : Type} : List (Lit × DataW H) → Nat
  | [] => 0
  | x :: r => uptoBulkEntry x + uptoBulkEntries r
def uptoBulkEntry {H : Type} : Lit × DataW H → Nat
  | (.string bytes, d) => bytes.length + uptoBulk d + 1
  | (_, d) => uptoBulk d + 1
 end
def uptoSmall : (H : Type) → List (DataW H) → Bool := fun _ ds => decide (uptoBulkAll ds ≤ 1048576)
def OpenSpec.upto (s : _root_.Go.ChangeSpec) : _root_.Go.OpenSpec := { _root_.Go.OpenSpec.ofChange s with cond := some uptoSmall }

/-- 'recantlaw03.VarintGets', WHERE WHAT IT READS IS OF BULK AT MOST 1048576: true; the input reads as it did. -/
def varintGetsUptoRow : OpenClaim := { program := "ythkpocgbinmeiaa", sum := "51d8d47fb11138075b06ede945110fa2f28893ae89d3bb81b4748693a2064b82", func := "recant/recantlaw03.VarintGets", spec := "varintGets", apart := false, narrowed := true }
def VarintGetsUptoSaid : Prop := varintGetsUptoRow.holds Try.pinned (OpenSpec.upto varintGetsSpec)

/-- 'recantlaw03.VarintPuts', WHERE WHAT IT READS IS OF BULK AT MOST 1048576: true; the input reads as it did. -/
def varintPutsUptoRow : OpenClaim := { program := "ythkpocgbinmeiaa", sum := "51d8d47fb11138075b06ede945110fa2f28893ae89d3bb81b4748693a2064b82", func := "recant/recantlaw03.VarintPuts", spec := "varintPuts", unfollowed := true, recurses := true, apart := false, narrowed := true }
def VarintPutsUptoSaid : Prop := varintPutsUptoRow.holds Try.pinned (OpenSpec.upto varintPutsSpec)

/-- 'recantlaw03.VarintLength', WHERE WHAT IT READS IS OF BULK AT MOST 1048576: true; the input reads as it did. -/
def varintLengthUptoRow : OpenClaim := { program := "ythkpocgbinmeiaa", sum := "51d8d47fb11138075b06ede945110fa2f28893ae89d3bb81b4748693a2064b82", func := "recant/recantlaw03.VarintLength", spec := "varintLength", unfollowed := true, recurses := true, apart := false, narrowed := true }
def VarintLengthUptoSaid : Prop := varintLengthUptoRow.holds Try.pinned (OpenSpec.upto varintLengthSpec)

/-- 'recantlaw03.VarintBack', WHERE WHAT IT READS IS OF BULK AT MOST 1048576: true; the input reads as it did. -/
def varintBackUptoRow : OpenClaim := { program := "ythkpocgbinmeiaa", sum := "51d8d47fb11138075b06ede945110fa2f28893ae89d3bb81b4748693a2064b82", func := "recant/recantlaw03.VarintBack", spec := "varintBack", unfollowed := true, recurses := true, apart := false, narrowed := true }
def VarintBackUptoSaid : Prop := varintBackUptoRow.holds Try.pinned (OpenSpec.upto varintBackSpec)

/-- 'recantlaw04.BinaryReads', WHERE WHAT IT READS IS OF BULK AT MOST 1048576: true; the input reads as it did. -/
def binaryReadsUptoRow : OpenClaim := { program := "ythkpocgbinmeiaa", sum := "51d8d47fb11138075b06ede945110fa2f28893ae89d3bb81b4748693a2064b82", func := "recant/recantlaw04.BinaryReads", spec := "binaryReads", apart := false, narrowed := true }
def BinaryReadsUptoSaid : Prop := binaryReadsUptoRow.holds Try.pinned (OpenSpec.upto binaryReadsSpec)

/-- 'recantlaw01.WordLines', WHERE WHAT IT READS IS OF BULK AT MOST 1048576: true; the input reads as it did. -/
def wordLinesUptoRow : OpenClaim := { program := "ythkpocgbinmeiaa", sum := "51d8d47fb11138075b06ede945110fa2f28893ae89d3bb81b4748693a2064b82", func := "recant/recantlaw01.WordLines", spec := "wordLines", inPlace := ["internal/bytealg.IndexByteString", "internal/bytealg.IndexString"], unfollowed := true, recurses := true, named := ["internal/bytealg.MaxLen"], apart := false, narrowed := true }
def WordLinesUptoSaid : Prop := wordLinesUptoRow.holds Try.pinned (OpenSpec.upto wordLinesSpec)

/-- 'recantlaw01.WordBlank', WHERE WHAT IT READS IS OF BULK AT MOST 1048576: true; the input reads as it did. -/
def wordBlankUptoRow : OpenClaim := { program := "ythkpocgbinmeiaa", sum := "51d8d47fb11138075b06ede945110fa2f28893ae89d3bb81b4748693a2064b82", func := "recant/recantlaw01.WordBlank", spec := "wordBlank", inPlace := ["internal/bytealg.IndexByteString", "internal/bytealg.IndexString"], unfollowed := true, recurses := true, named := ["internal/bytealg.MaxLen"], apart := false, narrowed := true }
def WordBlankUptoSaid : Prop := wordBlankUptoRow.holds Try.pinned (OpenSpec.upto wordBlankSpec)

end Rows
end Go.Proofs.Ythkpocgbinmeiaa

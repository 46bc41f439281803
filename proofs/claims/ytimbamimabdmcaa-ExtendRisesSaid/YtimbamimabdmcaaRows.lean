/-
  No cell of these rows narrows 'for every input' (looked for: loops, veiled, ifaces, maps, wideKeys, modest, calm, conditions, laid).
  DERIVED. THE GIVEN ROWS OF THIS SEAT. 5 by the template 'for every input the law returns true; each argument reads behind the call as it read before'; 0 by the template 'total and deterministic' (their statements: YtimbamimabdmcaaTotals.lean).
  GIVEN WITH THE SEED: the statements are not yours to turn. If you find one false, say at which input.
  Laid BY PROGRAM, IN A SANDBOX (cutbox-rows.mjs): the forced cells as the released guide's own fill.sh prints them over the translation ed2cc3507a24b60d… (all of the seat's roots in one cut). By AI agents, Wed Nov 11 2026. No macro, syntax, notation, axiom, sorry.
-/
import Derived.Test.YtimbamimabdmcaaChecked
import GoSem.Claim
import GoSem.ClaimJoined
import GoSem.ClaimMapViews
import Derived.JoinedTies
import Derived.KernelRfl
namespace Go.Proofs.Ytimbamimabdmcaa
/- THE CELL 'sum', in the pinned program and in every row, IS THE sha256 OF THE DUMP (.gsa) THAT YtimbamimabdmcaaProg.lean LOADS. Nothing in Lean hashes anything: it is a label: what it is worth is what the hold of that sum in a sandbox is worth. -/
noncomputable def Try.pinned : Pinned := { name := "ytimbamimabdmcaa", sum := "ed2cc3507a24b60d8a1d2d95ccf6e2960e22451c574ec0841cd621524193a426", checked := Try.checked }
namespace Rows
def none {H : Type} : Left H := { results := [], args := [] }

/-- 'recantlaw18.CycleLeast': WHATEVER THE INPUT: true; the input reads as it did. -/
def cycleLeastSpec : ChangeSpec := { name := "cycleLeast", fn := fun _ => fun
  | [d1, d2] => { results := [.lit (.bool true)], args := [d1, d2] }
  | _ => none }
def cycleLeastRow : OpenClaim := { program := "ytimbamimabdmcaa", sum := "ed2cc3507a24b60d8a1d2d95ccf6e2960e22451c574ec0841cd621524193a426", func := "recant/recantlaw18.CycleLeast", spec := "cycleLeast", unfollowed := true, recurses := true, apart := false }
def CycleLeastSaid : Prop := cycleLeastRow.holds Try.pinned (OpenSpec.ofChange cycleLeastSpec)

/-- ITS FALSE NEIGHBOUR: 'it returns false'. Refute it at one input. -/
def cycleLeastWrong : ChangeSpec := { name := "cycleLeast", fn := fun _ => fun
  | [d1, d2] => { results := [.lit (.bool false)], args := [d1, d2] }
  | _ => none }
def CycleLeastWrongFalsely : Prop := cycleLeastRow.holds Try.pinned (OpenSpec.ofChange cycleLeastWrong)

/-- 'recantlaw18.CycleMore': WHATEVER THE INPUT: true; the input reads as it did. -/
def cycleMoreSpec : ChangeSpec := { name := "cycleMore", fn := fun _ => fun
  | [d1, d2, d3] => { results := [.lit (.bool true)], args := [d1, d2, d3] }
  | _ => none }
def cycleMoreRow : OpenClaim := { program := "ytimbamimabdmcaa", sum := "ed2cc3507a24b60d8a1d2d95ccf6e2960e22451c574ec0841cd621524193a426", func := "recant/recantlaw18.CycleMore", spec := "cycleMore", unfollowed := true, recurses := true, apart := false }
def CycleMoreSaid : Prop := cycleMoreRow.holds Try.pinned (OpenSpec.ofChange cycleMoreSpec)

/-- ITS FALSE NEIGHBOUR: 'it returns false'. Refute it at one input. -/
def cycleMoreWrong : ChangeSpec := { name := "cycleMore", fn := fun _ => fun
  | [d1, d2, d3] => { results := [.lit (.bool false)], args := [d1, d2, d3] }
  | _ => none }
def CycleMoreWrongFalsely : Prop := cycleMoreRow.holds Try.pinned (OpenSpec.ofChange cycleMoreWrong)

/-- 'recantlaw11.ExtendAll': WHATEVER THE INPUT: true; the input reads as it did. -/
def extendAllSpec : ChangeSpec := { name := "extendAll", fn := fun _ => fun
  | [d] => { results := [.lit (.bool true)], args := [d] }
  | _ => none }
def extendAllRow : OpenClaim := { program := "ytimbamimabdmcaa", sum := "ed2cc3507a24b60d8a1d2d95ccf6e2960e22451c574ec0841cd621524193a426", func := "recant/recantlaw11.ExtendAll", spec := "extendAll", unfollowed := true, recurses := true, apart := false }
def ExtendAllSaid : Prop := extendAllRow.holds Try.pinned (OpenSpec.ofChange extendAllSpec)

/-- ITS FALSE NEIGHBOUR: 'it returns false'. Refute it at one input. -/
def extendAllWrong : ChangeSpec := { name := "extendAll", fn := fun _ => fun
  | [d] => { results := [.lit (.bool false)], args := [d] }
  | _ => none }
def ExtendAllWrongFalsely : Prop := extendAllRow.holds Try.pinned (OpenSpec.ofChange extendAllWrong)

/-- 'recantlaw11.ExtendRises': WHATEVER THE INPUT: true; the input reads as it did. -/
def extendRisesSpec : ChangeSpec := { name := "extendRises", fn := fun _ => fun
  | [d1, d2, d3] => { results := [.lit (.bool true)], args := [d1, d2, d3] }
  | _ => none }
def extendRisesRow : OpenClaim := { program := "ytimbamimabdmcaa", sum := "ed2cc3507a24b60d8a1d2d95ccf6e2960e22451c574ec0841cd621524193a426", func := "recant/recantlaw11.ExtendRises", spec := "extendRises", unfollowed := true, recurses := true, apart := false }
def ExtendRisesSaid : Prop := extendRisesRow.holds Try.pinned (OpenSpec.ofChange extendRisesSpec)

/-- ITS FALSE NEIGHBOUR: 'it returns false'. Refute it at one input. -/
def extendRisesWrong : ChangeSpec := { name := "extendRises", fn := fun _ => fun
  | [d1, d2, d3] => { results := [.lit (.bool false)], args := [d1, d2, d3] }
  | _ => none }
def ExtendRisesWrongFalsely : Prop := extendRisesRow.holds Try.pinned (OpenSpec.ofChange extendRisesWrong)

/-- 'recantlaw18.CycleOrRow': WHATEVER THE INPUT: true; the input reads as it did. -/
def cycleOrRowSpec : ChangeSpec := { name := "cycleOrRow", fn := fun _ => fun
  | [d] => { results := [.lit (.bool true)], args := [d] }
  | _ => none }
def cycleOrRowRow : OpenClaim := { program := "ytimbamimabdmcaa", sum := "ed2cc3507a24b60d8a1d2d95ccf6e2960e22451c574ec0841cd621524193a426", func := "recant/recantlaw18.CycleOrRow", spec := "cycleOrRow", unfollowed := true, recurses := true, apart := false }
def CycleOrRowSaid : Prop := cycleOrRowRow.holds Try.pinned (OpenSpec.ofChange cycleOrRowSpec)

/-- ITS FALSE NEIGHBOUR: 'it returns false'. Refute it at one input. -/
def cycleOrRowWrong : ChangeSpec := { name := "cycleOrRow", fn := fun _ => fun
  | [d] => { results := [.lit (.bool false)], args := [d] }
  | _ => none }
def CycleOrRowWrongFalsely : Prop := cycleOrRowRow.holds Try.pinned (OpenSpec.ofChange cycleOrRowWrong)

/- THE SECOND FORM. 'bulk': how many values and letters a reading holds, each counted each time it is reached (what is shared counts as often as it is met; a slice's spare places count too). A statement '..UptoSaid' is the law's where the arguments, and the package variables that the reading takes, are together of bulk at most 1048576: NARROWER than '..Said'. Prove '..Said' where nothing that the law and all that it calls make is longer than what came in: it says more and counts as full. Else prove '..UptoSaid'. A law counts once. -/
mutual
def uptoBulk {H : Type} : DataW H → Nat
  | .lit (.string bytes) => bytes.length + 1
  | .lit _ => 1
  | .nil => 1
  | .ptr d => uptoBulk d + 1
  | .slice elems spare => uptoBulkAll elems + uptoBulkAll spare + 1
  | .agg parts => uptoBulkAll parts + 1
  | .iface _ d => uptoBulk d + 1
  | .map entries => uptoBulkEntries entries + 1
  | .held _ => 1
def uptoBulkAll {H : Type} : List (DataW H) → Nat
  | [] => 0
  | d :: r => uptoBulk d + uptoBulkAll r
def uptoBulkEntries {H : Type} : List (Lit × DataW H) → Nat
  | [] => 0
  | x :: r => uptoBulkEntry x + uptoBulkEntries r
def uptoBulkEntry {H : Type} : Lit × DataW H → Nat
  | (.string bytes, d) => bytes.length + uptoBulk d + 1
  | (_, d) => uptoBulk d + 1
 end
def uptoSmall : (H : Type) → List (DataW H) → Bool := fun _ ds => decide (uptoBulkAll ds ≤ 1048576)
def OpenSpec.upto (s : _root_.Go.ChangeSpec) : _root_.Go.OpenSpec := { _root_.Go.OpenSpec.ofChange s with cond := some uptoSmall }

/-- 'recantlaw18.CycleLeast', WHERE WHAT IT READS IS OF BULK AT MOST 1048576: true; the input reads as it did. -/
def cycleLeastUptoRow : OpenClaim := { program := "ytimbamimabdmcaa", sum := "ed2cc3507a24b60d8a1d2d95ccf6e2960e22451c574ec0841cd621524193a426", func := "recant/recantlaw18.CycleLeast", spec := "cycleLeast", unfollowed := true, recurses := true, apart := false, narrowed := true }
def CycleLeastUptoSaid : Prop := cycleLeastUptoRow.holds Try.pinned (OpenSpec.upto cycleLeastSpec)

/-- 'recantlaw18.CycleMore', WHERE WHAT IT READS IS OF BULK AT MOST 1048576: true; the input reads as it did. -/
def cycleMoreUptoRow : OpenClaim := { program := "ytimbamimabdmcaa", sum := "ed2cc3507a24b60d8a1d2d95ccf6e2960e22451c574ec0841cd621524193a426", func := "recant/recantlaw18.CycleMore", spec := "cycleMore", unfollowed := true, recurses := true, apart := false, narrowed := true }
def CycleMoreUptoSaid : Prop := cycleMoreUptoRow.holds Try.pinned (OpenSpec.upto cycleMoreSpec)

/-- 'recantlaw11.ExtendAll', WHERE WHAT IT READS IS OF BULK AT MOST 1048576: true; the input reads as it did. -/
def extendAllUptoRow : OpenClaim := { program := "ytimbamimabdmcaa", sum := "ed2cc3507a24b60d8a1d2d95ccf6e2960e22451c574ec0841cd621524193a426", func := "recant/recantlaw11.ExtendAll", spec := "extendAll", unfollowed := true, recurses := true, apart := false, narrowed := true }
def ExtendAllUptoSaid : Prop := extendAllUptoRow.holds Try.pinned (OpenSpec.upto extendAllSpec)

/-- 'recantlaw11.ExtendRises', WHERE WHAT IT READS IS OF BULK AT MOST 1048576: true; the input reads as it did. -/
def extendRisesUptoRow : OpenClaim := { program := "ytimbamimabdmcaa", sum := "ed2cc3507a24b60d8a1d2d95ccf6e2960e22451c574ec0841cd621524193a426", func := "recant/recantlaw11.ExtendRises", spec := "extendRises", unfollowed := true, recurses := true, apart := false, narrowed := true }
def ExtendRisesUptoSaid : Prop := extendRisesUptoRow.holds Try.pinned (OpenSpec.upto extendRisesSpec)

/-- 'recantlaw18.CycleOrRow', WHERE WHAT IT READS IS OF BULK AT MOST 1048576: true; the input reads as it did. -/
def cycleOrRowUptoRow : OpenClaim := { program := "ytimbamimabdmcaa", sum := "ed2cc3507a24b60d8a1d2d95ccf6e2960e22451c574ec0841cd621524193a426", func := "recant/recantlaw18.CycleOrRow", spec := "cycleOrRow", unfollowed := true, recurses := true, apart := false, narrowed := true }
def CycleOrRowUptoSaid : Prop := cycleOrRowUptoRow.holds Try.pinned (OpenSpec.upto cycleOrRowSpec)

end Rows
end Go.Proofs.Ytimbamimabdmcaa

-- Written by gprint.py, a program of this session's: the kit's print with given functions beside. Not trusted: Lean checks it.
import Derived.Test.YthkpocgbinmeiaaDoorProg
import Derived.Below
import Derived.Deep.Draws
import Derived.Deep.AppendLies
import Derived.Maps.AppendAt
import Derived.OwnWalk
import Derived.Laws.BytesArg
import Derived.Laws.MakeOwn
import Derived.Laws.OwnMore
import Derived.Deep.OwnRows
import Derived.Tactics
import Derived.Lib.ConvBytes
import Derived.Laws.Slices
import Derived.WalkKit
import Derived.KernelRfl
import Derived.RowKit3
import Derived.Deep.LoopGhost
import Derived.Deep.QuietTactic
import Derived.BigQuiet
import Derived.WideLaws
import Derived.Deep.DeepCutAuto
import Derived.Deep.CutBlock
import Derived.Deep.RegionHeld3
import Derived.Laws.Rows
import Derived.Lib.AppendStr
import Derived.ArgAppend
import Derived.Laws.IdiomCopy
import Derived.OrdersHeld
import Derived.Laws.BitsLemmas
import Derived.RowKit
import Derived.Test.YthkpocgbinmeiaaDoorWWords
import Derived.Test.YthkpocgbinmeiaaDoorWLast
import Derived.Test.YthkpocgbinmeiaaDoorWTab
import Derived.Test.YthkpocgbinmeiaaDoorWQPut
import Derived.Test.YthkpocgbinmeiaaDoorWApart
import Derived.Test.YthkpocgbinmeiaaDoorWArr
import Derived.Test.YthkpocgbinmeiaaDoorWZeros
import Derived.Test.YthkpocgbinmeiaaDoorWFoot
import Derived.Test.YthkpocgbinmeiaaDoorWKept
import Derived.Test.YthkpocgbinmeiaaDoorWShare
import Derived.Test.YthkpocgbinmeiaaDoorWN
import Derived.Test.YthkpocgbinmeiaaDoorWEqStruct
import Derived.Test.YthkpocgbinmeiaaDoorWRepsOne
import Derived.Test.YthkpocgbinmeiaaDoorWNEv
import Derived.Test.YthkpocgbinmeiaaDoorWMore
namespace Go.Proofs.YthkpocgbinmeiaaDoor.P
open Go.RowKit Go.Proofs.YthkpocgbinmeiaaDoorW.PrintWords Go.Proofs.YthkpocgbinmeiaaDoorW.PrintLast Go.Proofs.YthkpocgbinmeiaaDoorW.PrintMore
attribute [local go_sem] max2_int min2_int max_two min_two max_three min_three max_four min_four   -- for this text's walks alone
set_option linter.unusedVariables false
set_option linter.unusedSimpArgs false



def errW : Option Int → Value
  | none => .nilIface
  | some c => .iface 0 (.int .i64 c)
theorem errW_none : errW none = .nilIface := rfl
theorem errW_some (c : Int) : errW (some c) = .iface 0 (.int .i64 c) := rfl

theorem info3 : (Tryd.prog.info? 3).map (fun i => (i.zero, i.size, i.bytes)) = some (some (.int .i64 0), 1, 8) := by kernel_rfl
theorem info9 : (Tryd.prog.info? 9).map (fun i => (i.zero, i.size, i.bytes)) = some (some (.string ⟨#[]⟩), 1, 16) := by kernel_rfl
-- the values' own types

end Go.Proofs.YthkpocgbinmeiaaDoor.P

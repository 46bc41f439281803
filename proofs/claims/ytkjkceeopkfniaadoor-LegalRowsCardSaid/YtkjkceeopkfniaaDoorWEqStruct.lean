-- PRUNED by prune.py, a program of this session's: the words that the kit's print.sh wrote, less the theorems that no text of this claim names. Not trusted: Lean checks it.
import Derived.Test.YtkjkceeopkfniaaDoorWWords
import Derived.Laws.StructEq
/-! ### 53. '==' of structs as_ one Bool -/
namespace Go.Proofs.YtkjkceeopkfniaaDoorW.PrintWords
open Go.RowKit
section
variable {P : Program} {d : Nat} {xs ys : Array Value} {f : Field} {fs : List Field} {a b : Value} {r s : Bool} {w : World}
end
end Go.Proofs.YtkjkceeopkfniaaDoorW.PrintWords

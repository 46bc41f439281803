/- extend.rows: the closure that it makes; slices.Clip. -/
import Derived.Test.YtimbamimabdmcaaP0
import Derived.Test.YtimbamimabdmcaaProg
import Derived.LoopTactic
import Derived.WalkKit
import Derived.OwnWalk
import Derived.Outline
import Derived.Lib.Hide
import Derived.RangeFuncNested
import Derived.RangeFuncBox
import Derived.RegionTactic
import Derived.Deep.QuietTactic
import Derived.BigQuiet
namespace Go.Proofs.Ytimbamimabdmcaa.P
set_option linter.unusedVariables false
set_option linter.unusedSimpArgs false
open Go Go.RowKit Go.Proofs.YtimbamimabdmcaaW.PrintWords Go.Proofs.YtimbamimabdmcaaW.PrintLast Go.Proofs.YtimbamimabdmcaaW.PrintMore

theorem clip_any (A : Option Addr) (n c : Nat) (hn : n ≤ c) (w : World) : Calls Try.prog 57 #[.slice A n c] w fun e w' => e = .returned (.slice A n n) ∧ w = w' := by
  have h1 : 0 ≤ (n : Int) := by omega
  have h2 : (n : Int) ≤ c := by omega
  go_enter Try.func57, Try.ntmps57
  go_wp2
  go_ret
  exact ⟨rfl, rfl⟩
/-- The closure, and the three variables that it holds. -/
theorem rows_makes (A0 : Option Addr) (n0 c0 : Nat) (A1 : Option Addr) (n1 c1 : Nat) (left : Int) (w : World) :
    Calls Try.prog 53 #[.slice A0 n0 c0, .slice A1 n1 c1, .int .u32 left] w fun e w' => e = .returned (.func (.func 56) #[] #[.pointer (some ⟨w.heap.size + 2, 0, none⟩), .pointer (some ⟨w.heap.size + 1, 0, none⟩), .pointer (some ⟨w.heap.size, 0, none⟩)]) ∧
      w' = ((w.alloc (.cells #[.slice A0 n0 c0] 22)).alloc (.cells #[.slice A1 n1 c1] 23)).alloc (.cells #[.int .u32 left] 35) := by
  go_enter Try.func53, Try.ntmps53
  go_wp2
  go_ret
  exact ⟨rfl, rfl⟩
end Go.Proofs.Ytimbamimabdmcaa.P

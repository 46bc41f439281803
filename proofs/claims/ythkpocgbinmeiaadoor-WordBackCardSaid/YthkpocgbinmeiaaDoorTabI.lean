/- What the laid variables of WordInts and WordBack give: the table of powers of ten. -/
import Derived.Test.YthkpocgbinmeiaaDoorGItoa
import Derived.Test.YthkpocgbinmeiaaDoorRows
import Derived.LaidMore
import Derived.Stop.LaidErr
import Derived.Stop.Joined
import Derived.Lib.LaidTab
namespace Go.Proofs.YthkpocgbinmeiaaDoor.P
open Go

def wordIntsLaid : List (String × DataW Unit) := [("math/bits.deBruijn32tab", Rows.laid_math_bits_deBruijn32tab), ("math/bits.deBruijn64tab", Rows.laid_math_bits_deBruijn64tab), ("internal/strconv.uint64pow10", Rows.laid_internal_strconv_uint64pow10)]
def wordBackLaid : List (String × DataW Unit) := wordIntsLaid
theorem iglobT : (Tryd.prog.globals[2]?).map (·.type) = some 154 := by kernel_rfl
theorem tab_of_wordInts {W : World} (h : laidMetH Tryd.prog wordIntsLaid W) : ITab W := by
  rw [MakeChecks.laidMetH_plain _ _ _ (by kernel_rfl)] at h
  have h3 : laidMet Tryd.prog [("internal/strconv.uint64pow10", Lib.tabData .u64 Lib.pow10Tab)] W := h.tail.tail
  exact Lib.tabIs_of_head iglob iglobT Tryd.underlying154 Tryd.underlying36 (by kernel_rfl) (by kernel_rfl) h3
theorem tab_of_wordBack {W : World} (h : laidMetH Tryd.prog wordBackLaid W) : ITab W := tab_of_wordInts h
end Go.Proofs.YthkpocgbinmeiaaDoor.P

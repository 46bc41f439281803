/- What the laid variables of TextReads and TextJoins give: the table of kinds. -/
import Derived.Test.YthkpocgbinmeiaaDoorGEvs
import Derived.Test.YthkpocgbinmeiaaDoorRows
import Derived.LaidMore
import Derived.Stop.LaidErr
import Derived.Stop.Joined
namespace Go.Proofs.YthkpocgbinmeiaaDoor.P
open Go

def textReadsLaid : List (String × DataW Unit) := [("unicode/utf8.acceptRanges", Rows.laid_unicode_utf8_acceptRanges), ("recant/text.kinds", Rows.laid_recant_text_kinds), ("unicode/utf8.first", Rows.laid_unicode_utf8_first)]
def textJoinsLaid : List (String × DataW Unit) := textReadsLaid
theorem tab_of_textReads {W : World} (h : laidMetH Tryd.prog textReadsLaid W) : KTab W := by
  rw [MakeChecks.laidMetH_plain _ _ _ (by kernel_rfl)] at h
  exact ktab_of h.tail
theorem tab_of_textJoins {W : World} (h : laidMetH Tryd.prog textJoinsLaid W) : KTab W := tab_of_textReads h
end Go.Proofs.YthkpocgbinmeiaaDoor.P

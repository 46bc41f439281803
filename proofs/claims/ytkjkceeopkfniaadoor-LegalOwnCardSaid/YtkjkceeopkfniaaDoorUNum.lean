/- Plain lemmas on numbers and bits. -/
import Derived.Laws.BitsLemmas
import Derived.OpenShut
import Derived.RowKit
namespace Go.Proofs.YtkjkceeopkfniaaDoor.U
set_option linter.unusedVariables false
set_option linter.unusedSimpArgs false
open Go Go.RowKit
theorem w64 {x : Int} (h : -9223372036854775808 ≤ x) (h2 : x < 9223372036854775808) : wrap64 x = x := by unfold wrap64; omega
theorem wu64 {x : Int} (h : 0 ≤ x) (h2 : x < 18446744073709551616) : IntKind.u64.wrap x = x := by
  simp [IntKind.wrap, IntKind.bits, IntKind.signed]; omega
theorem bits_or_comm (k : IntKind) (x y : Int) : Go.bits .or k x y = Go.bits .or k y x := by
  simp only [Go.bits, BitVec.or_comm]
theorem and127 (c : Int) (h0 : 0 ≤ c) (h1 : c ≤ 255) : Go.bits .and .u8 c 127 = c % 128 :=
  Go.bits_mask .u8 8 (by decide) Go.wraps_u8 7 (by decide) c h0 (by omega)
theorem and127u (m : Nat) (hm : m < 18446744073709551616) : Go.bits .and .u64 (m : Int) 127 % 256 = ((m % 128 : Nat) : Int) := by
  have h : Go.bits .and .u64 (m : Int) 127 = (m : Int) % 128 := Go.bits_mask .u64 64 (by decide) (fun n a b => wu64 a (by omega)) 7 (by decide) m (by omega) (by omega)
  rw [h]; omega
theorem or_join (i : Nat) (x y : Int) (hx0 : 0 ≤ x) (hx : x % 2 ^ i = 0) (hx1 : x < 18446744073709551616) (hy0 : 0 ≤ y) (hy : y < 2 ^ i) (hy1 : y < 18446744073709551616) : Go.bits .or .u64 y x = y + x := by
  rw [bits_or_comm, Go.bits_join .u64 64 (by decide) (fun n a b => wu64 a (by omega)) i x y hx0 hx (by omega) hy0 hy (by omega)]
  omega
theorem or128 (x : Int) (h0 : 0 ≤ x) (h1 : x < 128) : Go.bits .or .u8 x 128 = x + 128 := by
  rw [bits_or_comm, Go.bits_join .u8 8 (by decide) Go.wraps_u8 7 128 x (by decide) (by decide) (by decide) h0 (by omega) (by omega)]
  omega
end Go.Proofs.YtkjkceeopkfniaaDoor.U

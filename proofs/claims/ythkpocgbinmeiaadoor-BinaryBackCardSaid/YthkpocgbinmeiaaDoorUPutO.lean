/- Plain lemmas on numbers' bytes: the reference's Put is putN; two equal rows are the same; signed numbers. -/
import Derived.Test.YthkpocgbinmeiaaDoorUNum
import Derived.Test.YthkpocgbinmeiaaDoorGPut
import Derived.Test.YthkpocgbinmeiaaDoorP3
namespace Go.Proofs.YthkpocgbinmeiaaDoor.U
set_option linter.unusedVariables false
set_option linter.unusedSimpArgs false
open Go Go.RowKit Go.Proofs.YthkpocgbinmeiaaDoor.P Go.Proofs.YthkpocgbinmeiaaDoorW.PrintWords Go.Proofs.YthkpocgbinmeiaaDoorW.PrintLast Go.Proofs.YthkpocgbinmeiaaDoorW.PrintMore

theorem putN_len (n : Nat) : (putN n).length = (septN n).length := by rw [putN_sept]; simp
theorem put_f (n : Nat) (hn : n < 18446744073709551616) : varint_Put.f (n : Int) = some (putN n) := by
  unfold varint_Put.f; rw [if_pos (by omega)]; simp
theorem i64w (n : Int) : IntKind.i64.wrap n = wrap64 n := by rw [IntKind.wrap_i64]; unfold wrap64; rfl
theorem xor_eq (x y : Int) : Go.bits .xor .i64 x y = wrap64 ((BitVec.ofInt 64 x ^^^ BitVec.ofInt 64 y).toNat : Int) := by rw [← i64w]; rfl
theorem xor_zero (x : Int) (h : -9223372036854775808 ≤ x) (h2 : x < 9223372036854775808) : Go.bits .xor .i64 x 0 = x := by
  rw [xor_eq, show BitVec.ofInt 64 0 = 0#64 from rfl, BitVec.xor_zero, BitVec.toNat_ofInt]
  unfold wrap64
  omega
theorem xor_neg (x : Int) (h : -9223372036854775808 ≤ x) (h2 : x < 9223372036854775808) : Go.bits .xor .i64 x (-1) = -1 - x := by
  rw [xor_eq, show BitVec.ofInt 64 (-1) = BitVec.allOnes 64 by decide, BitVec.xor_allOnes, BitVec.toNat_not, BitVec.toNat_ofInt]
  unfold wrap64
  omega
def zigN (m : Int) : Int := if 0 ≤ m then 2 * m else -2 * m - 1
theorem zig_f (m : Int) (h : -9223372036854775808 ≤ m) (h2 : m < 9223372036854775808) : varint_Zig.f m = some (zigN m) := by
  unfold varint_Zig.f zigN
  congr 1
  by_cases h0 : 0 ≤ m
  · rw [if_pos h0, show m / 9223372036854775808 = 0 by omega, xor_zero _ (by unfold wrap64; omega) (by unfold wrap64; omega)]
    simp only [IntKind.wrap, IntKind.bits, IntKind.signed]; unfold wrap64; simp; omega
  · rw [if_neg h0, show m / 9223372036854775808 = -1 by omega, xor_neg _ (by unfold wrap64; omega) (by unfold wrap64; omega)]
    simp only [IntKind.wrap, IntKind.bits, IntKind.signed]; unfold wrap64; simp; omega
end Go.Proofs.YthkpocgbinmeiaaDoor.U

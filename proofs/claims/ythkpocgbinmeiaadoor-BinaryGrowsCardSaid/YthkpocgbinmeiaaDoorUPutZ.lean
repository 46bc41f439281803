/- Plain lemmas on numbers' bytes: the reference's Put is putN; two equal rows are the same; signed numbers. -/
import Derived.Test.YthkpocgbinmeiaaDoorUNum
import Derived.Test.YthkpocgbinmeiaaDoorGPut
import Derived.Test.YthkpocgbinmeiaaDoorP7
import Derived.Test.YthkpocgbinmeiaaDoorP3
namespace Go.Proofs.YthkpocgbinmeiaaDoor.U
set_option linter.unusedVariables false
set_option linter.unusedSimpArgs false
open Go Go.RowKit Go.Proofs.YthkpocgbinmeiaaDoor.P Go.Proofs.YthkpocgbinmeiaaDoorW.PrintWords Go.Proofs.YthkpocgbinmeiaaDoorW.PrintLast Go.Proofs.YthkpocgbinmeiaaDoorW.PrintMore

theorem bounds64 {n : Int} (h : (Lit.int .u64 n).wf = true) : ∃ m : Nat, n = m ∧ m < 18446744073709551616 := by
  have := bounds_u64 h
  exact ⟨n.toNat, by omega, by omega⟩
theorem putN_len (n : Nat) : (putN n).length = (septN n).length := by rw [putN_sept]; simp
theorem put_f (n : Nat) (hn : n < 18446744073709551616) : varint_Put.f (n : Int) = some (putN n) := by
  unfold varint_Put.f; rw [if_pos (by omega)]; simp
theorem refput_loop (n : Nat) : n < 18446744073709551616 → ∀ acc : List Int, acc.length + (putN n).length ≤ 1000 → Ev (fun k => recantref03_Put.l0 k (n : Int) acc) (acc ++ putN n) := by
  fun_induction putN n with
  | case1 n h =>
    intro hn acc hl
    refine ⟨1, fun k hk => ?_⟩
    obtain ⟨k, rfl⟩ : ∃ m, k = m + 1 := ⟨k - 1, by omega⟩
    simp only [recantref03_Put.l0]
    rw [if_neg (by omega), if_pos (by omega)]
    have : (n : Int) % 256 = ((n % 128 : Nat) : Int) := by omega
    rw [this]
  | case2 n h ih =>
    intro hn acc hl
    simp only [List.length_cons] at hl
    obtain ⟨K, e⟩ := ih (by omega) (acc ++ [((n % 128 + 128 : Nat) : Int)]) (by simp; omega)
    refine ⟨K + 1, fun k hk => ?_⟩
    obtain ⟨k, rfl⟩ : ∃ m, k = m + 1 := ⟨k - 1, by omega⟩
    simp only [recantref03_Put.l0]
    rw [if_pos (by omega), if_pos (by omega), Int.tdiv_eq_ediv_of_nonneg (by omega), Int.tmod_eq_emod_of_nonneg (by omega), wu64 (by omega) (by omega)]
    have h1 : ((n : Int) % 128 + 128) % 256 = ((n % 128 + 128 : Nat) : Int) := by omega
    have h2 : (n : Int) / 128 = ((n / 128 : Nat) : Int) := by omega
    rw [h1, h2]
    have := e k (by omega)
    dsimp only at this
    rw [this]; simp
theorem refput_ev (n : Nat) (hn : n < 18446744073709551616) : Ev (fun k => recantref03_Put.f k (n : Int)) (putN n) := by
  obtain ⟨K, e⟩ := refput_loop n hn [] (by rw [putN_len]; have := septN_len10 n hn; simp; omega)
  exact ⟨K, fun k hk => by have := e k hk; simpa [recantref03_Put.f] using this⟩

/-- Rows of numbers held side by side. -/
theorem same_loop (a b : List Int) (hl : a.length = b.length) (hm : a.length < 9223372036854775807) (d : Nat) : ∀ i : Nat, i + d = a.length → Ev (fun k => recantref03_Same.l0 k a b (a.length : Int) (i : Int)) (decide (a.drop i = b.drop i)) := by
  induction d with
  | zero =>
    intro i hi
    refine ⟨1, fun k hk => ?_⟩
    obtain ⟨k, rfl⟩ : ∃ m, k = m + 1 := ⟨k - 1, by omega⟩
    simp only [recantref03_Same.l0]
    rw [if_neg (by omega), List.drop_of_length_le (by omega), List.drop_of_length_le (by omega)]
    simp
  | succ d ih =>
    intro i hi
    obtain ⟨K, e⟩ := ih (i + 1) (by omega)
    refine ⟨K + 1, fun k hk => ?_⟩
    obtain ⟨k, rfl⟩ : ∃ m, k = m + 1 := ⟨k - 1, by omega⟩
    simp only [recantref03_Same.l0]
    rw [if_pos (by omega), if_pos (by omega), if_pos (by omega), if_pos (by omega), w64 (by omega) (by omega)]
    have ha : a.drop i = a[i]'(by omega) :: a.drop (i + 1) := List.drop_eq_getElem_cons (by omega)
    have hb : b.drop i = b[i]'(by omega) :: b.drop (i + 1) := List.drop_eq_getElem_cons (by omega)
    have ra : rd a (i : Int) = a[i]'(by omega) := by unfold rd; simp [List.getD_eq_getElem?_getD, List.getElem?_eq_getElem (show i < a.length by omega)]
    have rb : rd b (i : Int) = b[i]'(by omega) := by unfold rd; simp [List.getD_eq_getElem?_getD, List.getElem?_eq_getElem (show i < b.length by omega)]
    rw [ra, rb]
    by_cases h : a[i]'(by omega) = b[i]'(by omega)
    · rw [if_pos h, ha, hb, h]
      have := e k (by omega)
      dsimp only at this
      rw [show ((i : Int) + 1) = ((i + 1 : Nat) : Int) by omega, this]
      simp only [List.cons.injEq, true_and]
    · rw [if_neg h, ha, hb]; simp only [List.cons.injEq, h, false_and, decide_false]
theorem same_ev (a b : List Int) (hm : a.length < 9223372036854775807) : Ev (fun k => recantref03_Same.f k a b) (decide (a = b)) := by
  by_cases hl : a.length = b.length
  · obtain ⟨K, e⟩ := same_loop a b hl hm a.length 0 (by omega)
    refine ⟨K, fun k hk => ?_⟩
    have := e k hk
    simp only [recantref03_Same.f]
    rw [if_pos (by omega)]
    simpa using this
  · refine ⟨0, fun k _ => ?_⟩
    simp only [recantref03_Same.f]
    rw [if_neg (by omega)]
    have : a ≠ b := fun h => hl (by rw [h])
    simp [this]

theorem i64w (n : Int) : IntKind.i64.wrap n = wrap64 n := by rw [IntKind.wrap_i64]; unfold wrap64; rfl
theorem xor_eq (x y : Int) : Go.bits .xor .i64 x y = wrap64 ((BitVec.ofInt 64 x ^^^ BitVec.ofInt 64 y).toNat : Int) := by rw [← i64w]; rfl
theorem xor_zero (x : Int) (h : -9223372036854775808 ≤ x) (h2 : x < 9223372036854775808) : Go.bits .xor .i64 x 0 = x := by
  rw [xor_eq, show BitVec.ofInt 64 0 = 0#64 from rfl, BitVec.xor_zero, BitVec.toNat_ofInt]
  unfold wrap64
  omega
theorem xor_neg (x : Int) (h : -9223372036854775808 ≤ x) (h2 : x < 9223372036854775808) : Go.bits .xor .i64 x (-1) = -1 - x := by
  rw [xor_eq, show BitVec.ofInt 64 (-1) = BitVec.allOnes 64 by decide, BitVec.xor_allOnes, BitVec.toNat_not, BitVec.toNat_ofInt]
  unfold wrap64
  omega
/-- A signed number as one that is not. -/
def zigN (m : Int) : Int := if 0 ≤ m then 2 * m else -2 * m - 1
theorem zig_f (m : Int) (h : -9223372036854775808 ≤ m) (h2 : m < 9223372036854775808) : varint_Zig.f m = some (zigN m) := by
  unfold varint_Zig.f zigN
  congr 1
  by_cases h0 : 0 ≤ m
  · rw [if_pos h0, show m / 9223372036854775808 = 0 by omega, xor_zero _ (by unfold wrap64; omega) (by unfold wrap64; omega)]
    simp only [IntKind.wrap, IntKind.bits, IntKind.signed]; unfold wrap64; simp; omega
  · rw [if_neg h0, show m / 9223372036854775808 = -1 by omega, xor_neg _ (by unfold wrap64; omega) (by unfold wrap64; omega)]
    simp only [IntKind.wrap, IntKind.bits, IntKind.signed]; unfold wrap64; simp; omega
theorem refzig_f (m : Int) (h : -9223372036854775808 ≤ m) (h2 : m < 9223372036854775808) : recantref03_Zig.f m = some (zigN m) := by
  unfold recantref03_Zig.f zigN
  by_cases h0 : 0 ≤ m
  · rw [if_pos (by omega), if_pos h0, wu64 (x := m) (by omega) (by omega), wu64 (by omega) (by omega)]
  · rw [if_neg (by omega), if_neg h0, w64 (x := m + 1) (by omega) (by omega), w64 (by omega) (by omega), wu64 (x := -(m + 1)) (by omega) (by omega), wu64 (x := 2 * -(m + 1)) (by omega) (by omega), wu64 (by omega) (by omega)]
    congr 1; omega
end Go.Proofs.YthkpocgbinmeiaaDoor.U

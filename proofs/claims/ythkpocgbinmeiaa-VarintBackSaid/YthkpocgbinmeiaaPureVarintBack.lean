/- Proved: what is put is got, wherever it stands; what is got, put, is those bytes; signed numbers are told back. No condition. -/
import Derived.Test.YthkpocgbinmeiaaP5
import Derived.Test.YthkpocgbinmeiaaGBackWalk
import Derived.Test.YthkpocgbinmeiaaUPut
import Derived.Test.YthkpocgbinmeiaaUGet
import Derived.Test.YthkpocgbinmeiaaGConcat
namespace Go.Proofs.Ythkpocgbinmeiaa.Pure
open Go.RowKit Go.Proofs.Ythkpocgbinmeiaa.P Go.Proofs.YthkpocgbinmeiaaW.PrintWords Go.Proofs.YthkpocgbinmeiaaW.PrintLast Go.Proofs.YthkpocgbinmeiaaW.PrintMore Go.Proofs.Ythkpocgbinmeiaa.U
set_option linter.unusedVariables false
set_option linter.unusedSimpArgs false

theorem zig_bd (m : Int) (h : -9223372036854775808 ≤ m) (h2 : m < 9223372036854775808) : 0 ≤ zigN m ∧ zigN m < 18446744073709551616 := by unfold zigN; split <;> omega
theorem zag_zig (m : Int) : zagN (zigN m) = m := by unfold zagN zigN; split <;> split <;> omega
theorem zig_zag (n : Int) (h : 0 ≤ n) : zigN (zagN n) = n := by unfold zagN zigN; split <;> split <;> omega
theorem zag_bd (n : Int) (h : 0 ≤ n) (h2 : n < 18446744073709551616) : -9223372036854775808 ≤ zagN n ∧ zagN n < 9223372036854775808 := by unfold zagN; split <;> omega
theorem putN_lo (n : Nat) : ∀ x ∈ putN n, 0 ≤ x ∧ x ≤ 255 := by
  intro x hx
  rw [putN_sept] at hx
  obtain ⟨y, hy, rfl⟩ := List.mem_map.1 hx
  have := septN_lo n y hy
  unfold P.byteOf; split <;> omega
theorem back_j0 (l : List Int) (hl : ∀ x ∈ l, 0 ≤ x ∧ x ≤ 255) (hlen : l.length ≤ 30) : Ev (fun k => recantlaw03_VarintBack.j0 k l false) true := by
  obtain ⟨v, e, c, he, hbad, hgood⟩ := get_any l hl (by omega) 0 l.length 0 0 (by omega) (by omega) (by omega) (by simp)
  obtain ⟨K, e1⟩ := get_f l 0 (by omega) he
  dsimp only at e1
  rw [show ((0 : Nat) : Int) = 0 from rfl] at e1
  by_cases hc : c = 0
  · obtain ⟨m, j, g1, g2, g3, g4, g5, g6, g7, g8⟩ := hgood hc
    have hv : v = (m : Int) := by simpa using g1
    subst hv
    simp only [Nat.zero_add, Nat.add_zero, List.drop_zero] at g2 g4 g5
    obtain ⟨K2, e2⟩ := same_ev (putN m) (l.take j) (by rw [putN_len]; have := septN_len10 m (by omega); omega)
    dsimp only at e2
    refine ⟨max K K2 + 1, fun k hk => ?_⟩
    obtain ⟨k, rfl⟩ : ∃ m, k = m + 1 := ⟨k - 1, by omega⟩
    simp only [recantlaw03_VarintBack.j0]
    rw [if_neg (by simp), e1 _ (by omega), Option.bind_some]
    dsimp only
    rw [if_pos hc, if_pos (by omega), put_f m (by omega), Option.bind_some, if_pos (by omega), show (e : Int).toNat = j by omega, e2 _ (by omega), Option.bind_some, g5]
    simp
  · have hv := hbad hc
    subst hv
    refine ⟨K + 1, fun k hk => ?_⟩
    obtain ⟨k, rfl⟩ : ∃ m, k = m + 1 := ⟨k - 1, by omega⟩
    simp only [recantlaw03_VarintBack.j0]
    rw [if_neg (by simp), e1 _ (by omega), Option.bind_some]
    dsimp only
    rw [if_neg hc, if_pos rfl]
theorem VarintBack : recantlaw03_VarintBack.Pure := by
  intro a0 a1 l2 l3 h0 h1 _ _ hw2 _ _ hw3
  obtain ⟨n, rfl, hn⟩ := bounds64 h0
  have hb := bounds_i64 h1
  have hm2 : (mn (l2.length : Int) 30).toNat ≤ 30 ∧ 0 ≤ mn (l2.length : Int) 30 ∧ mn (l2.length : Int) 30 ≤ l2.length := by unfold mn; split <;> omega
  have hm3 : (mn (l3.length : Int) 30).toNat ≤ 30 ∧ 0 ≤ mn (l3.length : Int) 30 ∧ mn (l3.length : Int) 30 ≤ l3.length := by unfold mn; split <;> omega
  obtain ⟨A, hA⟩ : ∃ A, A = l2.take (mn (l2.length : Int) 30).toNat := ⟨_, rfl⟩
  obtain ⟨B, hB⟩ : ∃ B, B = l3.take (mn (l3.length : Int) 30).toNat := ⟨_, rfl⟩
  have lA : A.length ≤ 30 := by rw [hA]; simp; omega
  have lB : B.length ≤ 30 := by rw [hB]; simp; omega
  have wA : ∀ x ∈ A, 0 ≤ x ∧ x ≤ 255 := fun x hx => bounds_u8 (hw2 x (List.mem_of_mem_take (hA ▸ hx)))
  have wB : ∀ x ∈ B, 0 ≤ x ∧ x ≤ 255 := fun x hx => bounds_u8 (hw3 x (List.mem_of_mem_take (hB ▸ hx)))
  have lP : (putN n).length ≤ 10 := by rw [putN_len]; exact septN_len10 n hn
  have hcat : slices_Concat_byte_byte.f [A, putN n, B] = some (A ++ (putN n ++ B)) := by
    unfold slices_Concat_byte_byte.f
    rw [if_pos (by simp; omega)]; simp
  have hget := get_f (A ++ (putN n ++ B)) A.length (by simp) (get_back (A ++ (putN n ++ B)) (by
    intro x hx
    rcases List.mem_append.1 hx with hx | hx
    · exact wA x hx
    · rcases List.mem_append.1 hx with hx | hx
      · exact putN_lo n x hx
      · exact wB x hx) (by simp; omega) A.length B n 0 0 (by simp) (by omega) (by omega) (by omega) (by simp) (by simp; omega))
  obtain ⟨K1, e1⟩ := alive_yes
  obtain ⟨K2, e2⟩ := hget
  obtain ⟨K3, e3⟩ := back_j0 A wA lA
  dsimp only at e1 e2 e3
  have hz := zig_bd a1 (by omega) (by omega)
  have hg := zag_bd n (by omega) (by omega)
  obtain ⟨z, hz2⟩ : ∃ z : Nat, zigN a1 = z := ⟨(zigN a1).toNat, by omega⟩
  refine ⟨max K1 (max K2 K3), ?_⟩
  simp only [recantlaw03_VarintBack.f]
  rw [if_pos hm2.2.1, if_pos hm2.2.2, Option.bind_some, if_pos hm3.2.1, if_pos hm3.2.2, Option.bind_some, ← hA, ← hB, put_f n hn, Option.bind_some, hcat, Option.bind_some, e2 _ (by omega), Option.bind_some]
  dsimp only
  rw [if_pos rfl, if_pos (by simp), if_pos (by rw [w64 (by simp; omega) (by simp; omega)]; simp; omega), zig_f a1 (by omega) (by omega), Option.bind_some, hz2, zag_f z (by omega), Option.bind_some, ← hz2, zag_zig, if_pos rfl, zag_f n hn, Option.bind_some, zig_f _ (by omega) (by omega), Option.bind_some, zig_zag n (by omega), if_pos rfl, e1 _ (by omega), Option.bind_some]
  exact e3 _ (by omega)

end Go.Proofs.Ythkpocgbinmeiaa.Pure

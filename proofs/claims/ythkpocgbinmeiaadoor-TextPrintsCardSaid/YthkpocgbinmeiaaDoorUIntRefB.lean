/- The reference's texts of numbers. -/
import Derived.Test.YthkpocgbinmeiaaDoorUNum
import Derived.Test.YthkpocgbinmeiaaDoorGItoa
import Derived.Test.YthkpocgbinmeiaaDoorP8
import Derived.Lib.ItoaLen
namespace Go.Proofs.YthkpocgbinmeiaaDoor.U
set_option linter.unusedVariables false
set_option linter.unusedSimpArgs false
open Go Go.RowKit Go.Proofs.YthkpocgbinmeiaaDoor.P Go.Proofs.YthkpocgbinmeiaaDoorW.PrintWords Go.Proofs.YthkpocgbinmeiaaDoorW.PrintLast Go.Proofs.YthkpocgbinmeiaaDoorW.PrintMore

theorem bytes_app (a b : List UInt8) : (⟨a.toArray⟩ : ByteArray) ++ ⟨b.toArray⟩ = ⟨(a ++ b).toArray⟩ := by
  apply ByteArray.ext
  rw [ByteArray.data_append]
  simp
theorem digit_piece (u : Nat) (h : u < 10) : (⟨#[48, 49, 50, 51, 52, 53, 54, 55, 56, 57]⟩ : ByteArray).extract u (u + 1) = ⟨(Lib.decDigits u).toArray⟩ := by
  rw [Lib.decDigits_one h]
  obtain rfl | rfl | rfl | rfl | rfl | rfl | rfl | rfl | rfl | rfl : u = 0 ∨ u = 1 ∨ u = 2 ∨ u = 3 ∨ u = 4 ∨ u = 5 ∨ u = 6 ∨ u = 7 ∨ u = 8 ∨ u = 9 := by omega
  all_goals decide +kernel
theorem dec_len (u : Nat) (h : u < 18446744073709551616) : (Lib.decDigits u).length ≤ 20 := by rw [Lib.decDigits_length]; exact Lib.nDigits_le20 u h
theorem rdec_ev : ∀ u : Nat, u < 4294967296 → Ev (fun k => recantref01_Text.f k (u : Int)) ⟨(Lib.decDigits u).toArray⟩ := by
  intro u
  induction u using Nat.strongRecOn with
  | _ u ih =>
    intro hu
    by_cases h10 : u < 10
    · refine ⟨1, fun k hk => ?_⟩
      obtain ⟨k, rfl⟩ : ∃ m, k = m + 1 := ⟨k - 1, by omega⟩
      simp only [recantref01_Text.f]
      rw [if_neg (by omega), if_pos (by omega), if_pos (by omega), w64 (by omega) (by omega), if_pos (by omega), if_pos (by omega), show ((u : Int)).toNat = u by omega, show ((u : Int) + 1).toNat = u + 1 by omega, digit_piece u h10]
    · obtain ⟨K1, e1⟩ := ih (u / 10) (by omega) (by omega)
      obtain ⟨K2, e2⟩ := ih (u % 10) (by omega) (by omega)
      refine ⟨K1 + K2 + 1, fun k hk => ?_⟩
      obtain ⟨k, rfl⟩ : ∃ m, k = m + 1 := ⟨k - 1, by omega⟩
      have e1 := e1 k (by omega)
      have e2 := e2 k (by omega)
      dsimp only at e1 e2
      simp only [recantref01_Text.f]
      have d1 := dec_len (u / 10) (by omega)
      have d2 := dec_len (u % 10) (by omega)
      rw [if_neg (by omega), if_neg (by omega), Int.tdiv_eq_ediv_of_nonneg (by omega), Int.tmod_eq_emod_of_nonneg (by omega), w64 (by omega) (by omega), show ((u : Int) / 10) = ((u / 10 : Nat) : Int) by omega, show ((u : Int) % 10) = ((u % 10 : Nat) : Int) by omega, e1, Option.bind_some, e2, Option.bind_some]
      have hsz : (⟨(Lib.decDigits (u / 10)).toArray⟩ : ByteArray).size + (⟨(Lib.decDigits (u % 10)).toArray⟩ : ByteArray).size ≤ 9223372036854775807 := by
        rw [Lib.size_eq, Lib.size_eq]; simp; omega
      rw [if_pos hsz, bytes_app]
      congr 3
      conv => rhs; rw [Lib.decDigits, dif_neg h10]
      rw [Lib.decDigits_one (by omega : u % 10 < 10)]
theorem rtext_ev (n : Int) (h0 : -2147483648 ≤ n) (h1 : n ≤ 2147483647) : Ev (fun k => recantref01_Text.f k n) ⟨(Lib.itoa n).toArray⟩ := by
  by_cases hn : n < 0
  · obtain ⟨K, e⟩ := rdec_ev n.natAbs (by omega)
    refine ⟨K + 1, fun k hk => ?_⟩
    obtain ⟨k, rfl⟩ : ∃ m, k = m + 1 := ⟨k - 1, by omega⟩
    have e := e k (by omega)
    dsimp only at e
    simp only [recantref01_Text.f]
    have d1 := dec_len n.natAbs (by omega)
    rw [if_pos hn, w64 (by omega) (by omega), show (-n) = ((n.natAbs : Nat) : Int) by omega, e, Option.bind_some]
    have hsz : 1 + (⟨(Lib.decDigits n.natAbs).toArray⟩ : ByteArray).size ≤ 9223372036854775807 := by
      rw [Lib.size_eq]; simp; omega
    rw [if_pos hsz]
    have : (⟨#[45]⟩ : ByteArray) = ⟨([45] : List UInt8).toArray⟩ := rfl
    rw [this, bytes_app]
    unfold Lib.itoa
    rw [if_pos hn]; rfl
  · have := rdec_ev n.toNat (by omega)
    rw [Int.toNat_of_nonneg (by omega)] at this
    unfold Lib.itoa
    rw [if_neg hn]
    exact this
end Go.Proofs.YthkpocgbinmeiaaDoor.U

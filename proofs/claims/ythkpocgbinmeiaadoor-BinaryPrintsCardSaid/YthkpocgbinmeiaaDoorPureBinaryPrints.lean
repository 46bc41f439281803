/- Proved: any events' bytes, and whether bytes are a text's, are as the reference says, or refused. Condition: the program's table of kinds lies in memory as its text lays it (the card ties that to the text). -/
import Derived.Test.YthkpocgbinmeiaaDoorUBinP
import Derived.Test.YthkpocgbinmeiaaDoorP8
namespace Go.Proofs.YthkpocgbinmeiaaDoor.Pure
set_option linter.unusedVariables false
set_option linter.unusedSimpArgs false
open Go Go.RowKit Go.Proofs.YthkpocgbinmeiaaDoor.P Go.Proofs.YthkpocgbinmeiaaDoorW.PrintWords Go.Proofs.YthkpocgbinmeiaaDoorW.PrintLast Go.Proofs.YthkpocgbinmeiaaDoorW.PrintMore Go.Proofs.YthkpocgbinmeiaaDoor.U

theorem alive04 : recantlaw04_alive.f = some true := by decide +kernel
theorem BinaryPrints (l : List S34) (b : List Int) : ∃ k, recantlaw04_BinaryPrints.f k l b = some true := by
  have hmn : (mn (l.length : Int) 65).toNat ≤ 65 ∧ 0 ≤ mn (l.length : Int) 65 ∧ mn (l.length : Int) 65 ≤ l.length := by unfold mn; split <;> omega
  have hmb : (mn (b.length : Int) 900).toNat ≤ 900 ∧ 0 ≤ mn (b.length : Int) 900 ∧ mn (b.length : Int) 900 ≤ b.length := by unfold mn; split <;> omega
  obtain ⟨h, hh⟩ : ∃ h, h = l.take (mn (l.length : Int) 65).toNat := ⟨_, rfl⟩
  obtain ⟨c, hc⟩ : ∃ c, c = b.take (mn (b.length : Int) 900).toNat := ⟨_, rfl⟩
  have hhl : h.length ≤ 65 := by rw [hh, List.length_take]; omega
  have hcl : c.length ≤ 900 := by rw [hc, List.length_take]; omega
  obtain ⟨K1, e1⟩ := pis_f c (by omega)
  obtain ⟨K2, e2⟩ := prights_f h (by omega)
  cases hr : rightsB h with
  | false =>
    rw [hr] at e2
    refine ⟨K1 + K2 + 1, ?_⟩
    have e1 := e1 (K1 + K2 + 1) (by omega)
    have e2 := e2 (K1 + K2) (by omega)
    dsimp only at e1 e2
    unfold recantlaw04_BinaryPrints.f
    rw [if_pos hmn.2.1, if_pos hmn.2.2, Option.bind_some, if_pos hmb.2.1, if_pos hmb.2.2, Option.bind_some, ← hh, ← hc, oprint_no h hr, Option.bind_some]
    unfold binary_Is.f
    rw [Option.bind_some, e1, Option.bind_some, if_neg (by simp), alive04, Option.bind_some]
    simp only [recantlaw04_BinaryPrints.j0]
    rw [if_neg (by simp), e2, Option.bind_some, if_neg (by simp), if_pos trivial]
    rfl
  | true =>
    rw [hr] at e2
    have hre : ∀ e ∈ h, rightB e = true := by
      unfold rightsB at hr
      simp only [Bool.and_eq_true, Bool.not_eq_true'] at hr
      intro e he
      have := List.any_eq_false.1 hr.2.1 e he
      simpa using this
    have hp := put10 h.length (by omega)
    have hlen := print_len h hre (putN h.length)
    obtain ⟨K3, e3⟩ := oprint_f h (by omega) hr
    obtain ⟨K4, e4⟩ := rprint_f h (by omega) hr
    obtain ⟨K5, e5⟩ := same_ev (printL (putN h.length) h) (printL (putN h.length) h) (by omega)
    refine ⟨K1 + K2 + K3 + K4 + K5 + 1, ?_⟩
    have e1 := e1 (K1 + K2 + K3 + K4 + K5 + 1) (by omega)
    have e2 := e2 (K1 + K2 + K3 + K4 + K5) (by omega)
    have e3 := e3 (K1 + K2 + K3 + K4 + K5 + 1) (by omega)
    have e4 := e4 (K1 + K2 + K3 + K4 + K5) (by omega)
    have e5 := e5 (K1 + K2 + K3 + K4 + K5) (by omega)
    dsimp only at e1 e2 e3 e4 e5
    unfold recantlaw04_BinaryPrints.f
    rw [if_pos hmn.2.1, if_pos hmn.2.2, Option.bind_some, if_pos hmb.2.1, if_pos hmb.2.2, Option.bind_some, ← hh, ← hc, e3, Option.bind_some]
    unfold binary_Is.f
    rw [Option.bind_some, e1, Option.bind_some, if_neg (by simp), alive04, Option.bind_some]
    simp only [recantlaw04_BinaryPrints.j0]
    rw [if_neg (by simp), e2, Option.bind_some, if_pos rfl, if_pos trivial, e4, Option.bind_some, e5, Option.bind_some]
    simp
end Go.Proofs.YthkpocgbinmeiaaDoor.Pure

/- TextPrints, plainly. -/
import Derived.Test.YthkpocgbinmeiaaDoorUTextPrint
import Derived.Test.YthkpocgbinmeiaaDoorUTextLaw
import Derived.Test.YthkpocgbinmeiaaDoorP9
namespace Go.Proofs.YthkpocgbinmeiaaDoor.Pure
set_option linter.unusedVariables false
set_option linter.unusedSimpArgs false
open Go Go.RowKit Go.Proofs.YthkpocgbinmeiaaDoor.P Go.Proofs.YthkpocgbinmeiaaDoor.U Go.Proofs.YthkpocgbinmeiaaDoorW.PrintWords Go.Proofs.YthkpocgbinmeiaaDoorW.PrintLast Go.Proofs.YthkpocgbinmeiaaDoorW.PrintMore

theorem TextPrints (l m : List S34) (hl : l.length ≤ 9223372036854775807) (hm : m.length ≤ 9223372036854775807) : ∃ k, recantlaw02_TextPrints.f k l m = some true := by
  have hm0 : 0 ≤ mn (l.length : Int) 65 ∧ mn (l.length : Int) 65 ≤ (l.length : Int) ∧ mn (l.length : Int) 65 ≤ 65 := by unfold mn; split <;> omega
  have hm1 : 0 ≤ mn (m.length : Int) 65 ∧ mn (m.length : Int) 65 ≤ (m.length : Int) := by unfold mn; split <;> omega
  obtain ⟨y, hy⟩ : ∃ y, y = l.take ((mn (l.length : Int) 65) : Int).toNat := ⟨_, rfl⟩
  obtain ⟨z, hz⟩ : ∃ z, z = m.take ((mn (m.length : Int) 65) : Int).toNat := ⟨_, rfl⟩
  have hyl : y.length ≤ 65 := by rw [hy, List.length_take]; omega
  obtain ⟨K1, e1⟩ := prights_f y (by omega)
  obtain ⟨r, K2, e2⟩ := same_ends_f y z (by omega)
  obtain ⟨K3, e3⟩ := same_self_f y (by omega)
  have step : ∀ k, K1 + K2 + K3 ≤ k → ∀ (b : ByteArray) (n : Int), text_Print.f y = some (b, n) → recantlaw02_TextPrints.f k l m = recantlaw02_TextPrints.j0 k y b n false := by
    intro k hk b n hp
    have e1 := e1 k (by omega)
    have e2 := e2 k (by omega)
    have e3 := e3 k (by omega)
    dsimp only at e1 e2 e3
    unfold recantlaw02_TextPrints.f
    rw [if_pos hm0.1, if_pos hm0.2.1, Option.bind_some, if_pos hm1.1, if_pos hm1.2, Option.bind_some, ← hy, ← hz, hp, Option.bind_some, show text_Right.f y = some (rightsB y) from rfl, Option.bind_some, e1, Option.bind_some, if_neg (by simp), like_same, e2, Option.bind_some, Option.bind_some, if_neg (by simp), like_same, e3, Option.bind_some, if_pos rfl, alive02, Option.bind_some]
    rfl
  by_cases hr : rightsB y = true
  · have hp : text_Print.f y = some (⟨(textL y).toArray⟩, 0) := by unfold text_Print.f; rw [if_pos hr]
    obtain ⟨K4, e4⟩ := rprintT_f y (by omega) hr
    refine ⟨K1 + K2 + K3 + K4 + 1, ?_⟩
    rw [step _ (by omega) _ _ hp]
    simp only [recantlaw02_TextPrints.j0]
    have e1 := e1 (K1 + K2 + K3 + K4) (by omega)
    have e4 := e4 (K1 + K2 + K3 + K4) (by omega)
    dsimp only at e1 e4
    rw [if_neg Bool.false_ne_true, e1, Option.bind_some, if_pos hr, if_pos trivial, e4, Option.bind_some]
    simp
  · have hp : text_Print.f y = some (⟨#[]⟩, 1) := by unfold text_Print.f; rw [if_neg hr]
    refine ⟨K1 + K2 + K3 + 1, ?_⟩
    rw [step _ (by omega) _ _ hp]
    simp only [recantlaw02_TextPrints.j0]
    have e1 := e1 (K1 + K2 + K3) (by omega)
    dsimp only at e1
    rw [if_neg Bool.false_ne_true, e1, Option.bind_some, if_neg hr, if_pos trivial, Lib.toList_data]
    rfl
end Go.Proofs.YthkpocgbinmeiaaDoor.Pure

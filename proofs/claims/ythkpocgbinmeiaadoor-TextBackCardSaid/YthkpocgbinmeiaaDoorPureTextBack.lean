/- TextBack, plainly. -/
import Derived.Test.YthkpocgbinmeiaaDoorUTextBack
import Derived.Test.YthkpocgbinmeiaaDoorUTextLaw
import Derived.Test.YthkpocgbinmeiaaDoorP6
namespace Go.Proofs.YthkpocgbinmeiaaDoor.Pure
set_option linter.unusedVariables false
set_option linter.unusedSimpArgs false
open Go Go.RowKit Go.Proofs.YthkpocgbinmeiaaDoor.P Go.Proofs.YthkpocgbinmeiaaDoor.U Go.Proofs.YthkpocgbinmeiaaDoorW.PrintWords Go.Proofs.YthkpocgbinmeiaaDoorW.PrintLast Go.Proofs.YthkpocgbinmeiaaDoorW.PrintMore

theorem print_good {h : List S34} (hr : rightsB h = true) : text_Print.f h = some (⟨(textL h).toArray⟩, 0) := by unfold text_Print.f; rw [if_pos hr]
theorem print_bad {h : List S34} (hr : ¬ rightsB h = true) : text_Print.f h = some (⟨#[]⟩, 1) := by unfold text_Print.f; rw [if_neg hr]
theorem back_j0 (s : ByteArray) : ∃ K, ∀ k, K ≤ k → recantlaw02_TextBack.j0 (k + 1) s = some true := by
  obtain ⟨⟨a, x, b⟩, hp⟩ := parse_at s
  have hl := parse_len s _ hp
  dsimp only at hl
  by_cases hb : b = 0
  · subst hb
    have hr := parse_right hp
    obtain ⟨K, e⟩ := same_self_f a (by omega)
    refine ⟨K, fun k hk => ?_⟩
    have e := e k hk
    dsimp only at e
    simp only [recantlaw02_TextBack.j0]
    rw [hp, Option.bind_some]
    dsimp only
    rw [if_pos rfl, print_good hr, Option.bind_some]
    dsimp only
    rw [parse_print hr, Option.bind_some, alive02, Option.bind_some, if_pos rfl, show text_Right.f a = some (rightsB a) from rfl, Option.bind_some, if_pos hr]
    dsimp only
    rw [if_pos rfl, if_pos rfl, e]
    rfl
  · have ha := parse_bad hp hb
    refine ⟨0, fun k _ => ?_⟩
    simp only [recantlaw02_TextBack.j0]
    rw [hp, Option.bind_some]
    dsimp only
    rw [if_neg hb, alive02, Option.bind_some, if_pos rfl, ha]
    rfl
theorem TextBack (l : List S34) (a1 : ByteArray) : ∃ k, recantlaw02_TextBack.f k l a1 = some true := by
  have hm0 : 0 ≤ mn (l.length : Int) 65 ∧ mn (l.length : Int) 65 ≤ (l.length : Int) ∧ mn (l.length : Int) 65 ≤ 65 := by unfold mn; split <;> omega
  have hm1 : 0 ≤ mn (a1.size : Int) 3010 ∧ mn (a1.size : Int) 3010 ≤ (a1.size : Int) := by unfold mn; split <;> omega
  obtain ⟨y, hy⟩ : ∃ y, y = l.take ((mn (l.length : Int) 65) : Int).toNat := ⟨_, rfl⟩
  have hyl : y.length ≤ 65 := by rw [hy, List.length_take]; omega
  obtain ⟨K, e⟩ := back_j0 (a1.extract 0 ((mn (a1.size : Int) 3010) : Int).toNat)
  obtain ⟨K2, e2⟩ := same_self_f y (by omega)
  refine ⟨K + K2 + 1, ?_⟩
  have e := e (K + K2) (by omega)
  have e2 := e2 (K + K2 + 1) (by omega)
  dsimp only at e2
  unfold recantlaw02_TextBack.f
  rw [if_pos hm0.1, if_pos hm0.2.1, Option.bind_some, if_pos hm1.1, if_pos hm1.2, ← hy]
  by_cases hr : rightsB y = true
  · rw [print_good hr, Option.bind_some]
    dsimp only
    rw [if_pos rfl, parse_print hr, Option.bind_some]
    dsimp only
    rw [if_pos rfl, if_pos rfl, e2, Option.bind_some, if_pos rfl]
    exact e
  · rw [print_bad hr, Option.bind_some]
    dsimp only
    rw [if_neg (show ¬ (1 : Int) = 0 by decide)]
    exact e
end Go.Proofs.YthkpocgbinmeiaaDoor.Pure

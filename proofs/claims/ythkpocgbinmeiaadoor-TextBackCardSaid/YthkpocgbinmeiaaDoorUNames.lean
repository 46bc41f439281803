/- Names of events, rows that may be, plainly. -/
import Derived.Test.YthkpocgbinmeiaaDoorGRight
namespace Go.Proofs.YthkpocgbinmeiaaDoor.U
set_option linter.unusedVariables false
set_option linter.unusedSimpArgs false
open Go Go.RowKit Go.Proofs.YthkpocgbinmeiaaDoor.P Go.Proofs.YthkpocgbinmeiaaDoorW.PrintWords Go.Proofs.YthkpocgbinmeiaaDoorW.PrintLast Go.Proofs.YthkpocgbinmeiaaDoorW.PrintMore

theorem seventh_no {evs : List S34} {ev : S34} (h : (namesF (evs ++ [ev])).length ≤ 6) : seventhB evs ev.f1 = false := by
  rw [names_snoc] at h
  unfold seventhB
  unfold addN at h
  by_cases hc : (namesF evs).contains ev.f1 = true
  · rw [hc]; simp
  · rw [if_neg hc, List.length_append] at h
    rw [decide_eq_false (by simp at h; omega)]; rfl
theorem names_one (evs : List S34) (ev : S34) : (namesF evs).length ≤ (namesF (evs ++ [ev])).length := by
  rw [names_snoc]; unfold addN; split <;> simp
theorem names_mono (hs : List S34) : ∀ evs : List S34, (namesF evs).length ≤ (namesF (evs ++ hs)).length := by
  induction hs with
  | nil => intro evs; simp
  | cons e t ih =>
    intro evs
    have h1 := names_one evs e
    have h2 := ih (evs ++ [e])
    rw [List.append_assoc] at h2
    exact Nat.le_trans h1 h2
theorem names_ok {evs : List S34} {ev : S34} (h6 : (namesF evs).length ≤ 6) (h : seventhB evs ev.f1 = false) : (namesF (evs ++ [ev])).length ≤ 6 := by
  rw [names_snoc]
  unfold addN
  by_cases hc : (namesF evs).contains ev.f1 = true
  · rw [if_pos hc]; exact h6
  · rw [if_neg hc, List.length_append]
    have hne : (namesF evs).length ≠ 6 := by
      intro he
      have hc' := Bool.eq_false_iff.2 hc
      unfold seventhB at h
      rw [he, hc'] at h
      simp at h
    simp; omega
theorem rights_of {h : List S34} (h1 : h.length ≤ 60) (h2 : ∀ e ∈ h, rightB e = true) (h3 : (namesF h).length ≤ 6) : rightsB h = true := by
  unfold rightsB
  rw [decide_eq_true h1, decide_eq_true h3]
  have : (h.any fun x => !rightB x) = false := by
    rw [List.any_eq_false]
    intro x hx
    rw [h2 x hx]; simp
  rw [this]; rfl
theorem rights_to {h : List S34} (hr : rightsB h = true) : h.length ≤ 60 ∧ (∀ e ∈ h, rightB e = true) ∧ (namesF h).length ≤ 6 := by
  unfold rightsB at hr
  simp only [Bool.and_eq_true, decide_eq_true_eq, Bool.not_eq_true', List.any_eq_false] at hr
  refine ⟨hr.1, fun e he => ?_, hr.2.2⟩
  have := hr.2.1 e he
  simpa using this
end Go.Proofs.YthkpocgbinmeiaaDoor.U

/- TextJoins, plainly. -/
import Derived.Test.YthkpocgbinmeiaaDoorUJoin
import Derived.Test.YthkpocgbinmeiaaDoorUTextLaw
import Derived.Test.YthkpocgbinmeiaaDoorP4
namespace Go.Proofs.YthkpocgbinmeiaaDoor.Pure
set_option linter.unusedVariables false
set_option linter.unusedSimpArgs false
open Go Go.RowKit Go.Proofs.YthkpocgbinmeiaaDoor.P Go.Proofs.YthkpocgbinmeiaaDoor.U Go.Proofs.YthkpocgbinmeiaaDoorW.PrintWords Go.Proofs.YthkpocgbinmeiaaDoorW.PrintLast Go.Proofs.YthkpocgbinmeiaaDoorW.PrintMore

theorem join_parse (s t : ByteArray) (a b : List S34) (x y : Int) (hs : text_Parse.f s = some (a, x, 0)) (ht : text_Parse.f t = some (b, y, 0)) (hr : rightsB (a ++ b) = true) (hz : s.size + t.size ≤ 2999) :
    text_Parse.f ((s ++ (⟨#[10]⟩ : ByteArray)) ++ t) = some (a ++ b, 0, 0) := by
  obtain ⟨h60, _, h6⟩ := rights_to hr
  unfold text_Parse.f at hs ht ⊢
  rw [if_neg (by omega)] at hs ht
  have hsz : ((s ++ (⟨#[10]⟩ : ByteArray)) ++ t).size = s.size + 1 + t.size := by rw [ByteArray.size_append, ByteArray.size_append]; rfl
  rw [if_neg (by rw [hsz]; omega), rows_joinS, lines_app _ _ _ _ _ _ (Option.some.inj hs)]
  have := lines_from _ _ _ _ _ (Option.some.inj ht) (0 + (sumN (rowsS s) : Int)) a h60 h6
  rw [List.append_nil] at this
  rw [this]
theorem TextJoins : recantlaw02_TextJoins.Pure := by
  intro a0 a1 w0 w1
  have hm0 : 0 ≤ mn (a0.size : Int) 3010 ∧ mn (a0.size : Int) 3010 ≤ (a0.size : Int) := by unfold mn; split <;> omega
  have hm1 : 0 ≤ mn (a1.size : Int) 3010 ∧ mn (a1.size : Int) 3010 ≤ (a1.size : Int) := by unfold mn; split <;> omega
  obtain ⟨s, hs⟩ : ∃ s, s = a0.extract 0 ((mn (a0.size : Int) 3010) : Int).toNat := ⟨_, rfl⟩
  obtain ⟨t, ht⟩ : ∃ t, t = a1.extract 0 ((mn (a1.size : Int) 3010) : Int).toNat := ⟨_, rfl⟩
  have hsz : s.size ≤ 3010 := by rw [hs]; simp; unfold mn; split <;> omega
  have htz : t.size ≤ 3010 := by rw [ht]; simp; unfold mn; split <;> omega
  obtain ⟨⟨a, x, e⟩, hpa⟩ := parse_at s
  obtain ⟨⟨b, y, f⟩, hpb⟩ := parse_at t
  have la := parse_len s _ hpa
  have lb := parse_len t _ hpb
  dsimp only at la lb
  have step : ∀ k, recantlaw02_TextJoins.f k a0 a1 = if e = 0 then (if f = 0 then (if rightsB (a ++ b) = true then recantlaw02_TextJoins.j0 k s t (a ++ b) (decide (((s.size : Int) + (t.size : Int)) > 2999)) else recantlaw02_TextJoins.j0 k s t (a ++ b) true) else recantlaw02_TextJoins.j0 k s t (a ++ b) true) else recantlaw02_TextJoins.j0 k s t (a ++ b) true := by
    intro k
    unfold recantlaw02_TextJoins.f
    rw [if_pos hm0.1, if_pos hm0.2, if_pos hm1.1, if_pos hm1.2, ← hs, ← ht, hpa, Option.bind_some, hpb, Option.bind_some, Option.bind_some]
    dsimp only
    rw [if_pos (by simp; omega), Option.bind_some, if_pos (by simp; omega), Option.bind_some, List.nil_append]
    unfold text_Right.f
    rw [Option.bind_some, w64 (by omega) (by omega)]
  have jt : ∀ k, recantlaw02_TextJoins.j0 (k + 1) s t (a ++ b) true = some true := by
    intro k
    simp only [recantlaw02_TextJoins.j0]
    rw [if_pos trivial, alive02, Option.bind_some]
  by_cases he : e = 0
  · by_cases hf : f = 0
    · by_cases hr : rightsB (a ++ b) = true
      · by_cases hz : ((s.size : Int) + (t.size : Int)) > 2999
        · refine ⟨1, ?_⟩
          rw [step, if_pos he, if_pos hf, if_pos hr, decide_eq_true hz]
          exact jt 0
        · subst he
          subst hf
          have hj := join_parse s t a b x y hpa hpb hr (by omega)
          obtain ⟨K, e2⟩ := same_self_f (a ++ b) (by simp; omega)
          have e2 := e2 K (Nat.le_refl _)
          dsimp only at e2
          refine ⟨K + 1, ?_⟩
          rw [step, if_pos rfl, if_pos rfl, if_pos hr, decide_eq_false hz]
          simp only [recantlaw02_TextJoins.j0]
          have hsz1 : (s ++ (⟨#[10]⟩ : ByteArray)).size = s.size + 1 := by rw [ByteArray.size_append]; rfl
          rw [if_neg Bool.false_ne_true, if_pos (by omega), if_pos (by rw [hsz1]; omega), hj, Option.bind_some, alive02, Option.bind_some]
          dsimp only
          rw [if_pos rfl, if_pos rfl, if_pos rfl, e2]
          rfl
      · refine ⟨1, ?_⟩
        rw [step, if_pos he, if_pos hf, if_neg hr]
        exact jt 0
    · refine ⟨1, ?_⟩
      rw [step, if_pos he, if_neg hf]
      exact jt 0
  · refine ⟨1, ?_⟩
    rw [step, if_neg he]
    exact jt 0
end Go.Proofs.YthkpocgbinmeiaaDoor.Pure

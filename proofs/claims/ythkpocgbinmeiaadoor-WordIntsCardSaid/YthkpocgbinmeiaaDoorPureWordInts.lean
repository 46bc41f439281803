/- Proved: the number that any text is, or the error, and any number's text, are as the reference says, or refused. Conditions: the library's tables lie in memory as its text lays them (the card ties that to the text). -/
import Derived.Test.YthkpocgbinmeiaaDoorUIntRef
import Derived.Test.YthkpocgbinmeiaaDoorP2
namespace Go.Proofs.YthkpocgbinmeiaaDoor.Pure
set_option linter.unusedVariables false
set_option linter.unusedSimpArgs false
open Go Go.RowKit Go.Proofs.YthkpocgbinmeiaaDoor.P Go.Proofs.YthkpocgbinmeiaaDoorW.PrintWords Go.Proofs.YthkpocgbinmeiaaDoorW.PrintLast Go.Proofs.YthkpocgbinmeiaaDoorW.PrintMore Go.Proofs.YthkpocgbinmeiaaDoor.U

theorem alive01 : Ev (fun k => recantlaw01_alive.f k) true := Ev.of recantlaw01_alive.mono (k := 60) (by decide +kernel)
theorem WordInts : recantlaw01_WordInts.Pure := by
  intro s n _ hw
  have hmn : (mn (s.size : Int) 200).toNat ≤ 200 ∧ 0 ≤ mn (s.size : Int) 200 ∧ mn (s.size : Int) 200 ≤ s.size := by unfold mn; split <;> omega
  obtain ⟨b, hb⟩ : ∃ b, b = s.extract 0 (mn (s.size : Int) 200).toNat := ⟨_, rfl⟩
  have hbl : b.size ≤ 200 := by rw [hb, ByteArray.size_extract]; omega
  obtain ⟨K1, e1⟩ := rint_ev b (by omega)
  obtain ⟨K2, e2⟩ := alive01
  have hi : word_Int.f b = some (intVal (restOf b).data.toList (minusOf b)) := by unfold word_Int.f; rw [if_pos (by omega)]
  by_cases hlo : n < -2147483648
  · have ht : word_Text.f n = some (⟨#[]⟩, 1) := by unfold word_Text.f; rw [if_pos hlo]
    have hn : recantref01_Number.f n = some false := by unfold recantref01_Number.f; rw [if_neg (by omega)]
    refine ⟨max K1 K2 + 1, ?_⟩
    have e1 := e1 (max K1 K2 + 1) (by omega)
    have e2 := e2 (max K1 K2 + 1) (by omega)
    dsimp only at e1 e2
    unfold recantlaw01_WordInts.f
    rw [if_pos hmn.2.1, if_pos hmn.2.2, ← hb, hi, Option.bind_some, ht, Option.bind_some, e1, Option.bind_some, if_pos rfl, if_pos rfl, e2, Option.bind_some]
    simp only [recantlaw01_WordInts.j0]
    rw [if_neg (by simp), hn, Option.bind_some, if_neg (by simp), if_pos trivial, Lib.toList_data]
    rfl
  · by_cases hhi : n > 2147483647
    · have ht : word_Text.f n = some (⟨#[]⟩, 1) := by unfold word_Text.f; rw [if_neg hlo, if_pos hhi]
      have hn : recantref01_Number.f n = some false := by unfold recantref01_Number.f; rw [if_pos (by omega), decide_eq_false (by omega)]
      refine ⟨max K1 K2 + 1, ?_⟩
      have e1 := e1 (max K1 K2 + 1) (by omega)
      have e2 := e2 (max K1 K2 + 1) (by omega)
      dsimp only at e1 e2
      unfold recantlaw01_WordInts.f
      rw [if_pos hmn.2.1, if_pos hmn.2.2, ← hb, hi, Option.bind_some, ht, Option.bind_some, e1, Option.bind_some, if_pos rfl, if_pos rfl, e2, Option.bind_some]
      simp only [recantlaw01_WordInts.j0]
      rw [if_neg (by simp), hn, Option.bind_some, if_neg (by simp), if_pos trivial, Lib.toList_data]
      rfl
    · have ht : word_Text.f n = some (⟨(Lib.itoa n).toArray⟩, 0) := by
        unfold word_Text.f strconv_Itoa.f
        rw [if_neg hlo, if_neg hhi, if_pos (by omega), Option.bind_some]
      have hn : recantref01_Number.f n = some true := by unfold recantref01_Number.f; rw [if_pos (by omega), decide_eq_true (by omega)]
      obtain ⟨K3, e3⟩ := rtext_ev n (by omega) (by omega)
      refine ⟨max K1 (max K2 K3) + 1, ?_⟩
      have e1 := e1 (max K1 (max K2 K3) + 1) (by omega)
      have e2 := e2 (max K1 (max K2 K3) + 1) (by omega)
      have e3 := e3 (max K1 (max K2 K3)) (by omega)
      dsimp only at e1 e2 e3
      unfold recantlaw01_WordInts.f
      rw [if_pos hmn.2.1, if_pos hmn.2.2, ← hb, hi, Option.bind_some, ht, Option.bind_some, e1, Option.bind_some, if_pos rfl, if_pos rfl, e2, Option.bind_some]
      simp only [recantlaw01_WordInts.j0]
      rw [if_neg (by simp), hn, Option.bind_some, if_pos rfl, if_pos trivial, e3, Option.bind_some]
      simp
end Go.Proofs.YthkpocgbinmeiaaDoor.Pure

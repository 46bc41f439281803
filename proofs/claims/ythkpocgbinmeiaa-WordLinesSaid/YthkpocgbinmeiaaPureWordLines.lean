/- Proved: any line's words, and where they begin, are as the reference says. No condition. -/
import Derived.Test.YthkpocgbinmeiaaP8
import Derived.Test.YthkpocgbinmeiaaUWord
namespace Go.Proofs.Ythkpocgbinmeiaa.Pure
set_option linter.unusedVariables false
set_option linter.unusedSimpArgs false
open Go.RowKit Go.Proofs.Ythkpocgbinmeiaa.P Go.Proofs.YthkpocgbinmeiaaW.PrintWords Go.Proofs.YthkpocgbinmeiaaW.PrintLast Go.Proofs.YthkpocgbinmeiaaW.PrintMore Go.Proofs.Ythkpocgbinmeiaa.U

theorem WordLines : recantlaw01_WordLines.Pure := by
  intro s0 _
  have hmn : (mn (s0.size : Int) 400).toNat ≤ 400 ∧ 0 ≤ mn (s0.size : Int) 400 ∧ mn (s0.size : Int) 400 ≤ s0.size := by unfold mn; split <;> omega
  obtain ⟨s, hs⟩ : ∃ s, s = s0.extract 0 (mn (s0.size : Int) 400).toNat := ⟨_, rfl⟩
  have hl : s.size ≤ 400 := by rw [hs]; simp; omega
  have hwl := words_len s
  obtain ⟨K1, e1⟩ := words_ev s (by omega)
  obtain ⟨K2, e2⟩ := refwords_ev s (by omega)
  obtain ⟨K3, e3⟩ := texts_ev ((wordsOf s).map (fun p => (cutHash s).1.extract p.1 p.2)) ((wordsOf s).map (fun p => s.extract p.1 p.2)) (by
    rw [List.map_map, List.map_map]; exact List.map_congr_left (fun p hp => word_same s p hp)) (by simp; omega)
  obtain ⟨K4, e4⟩ := ints_ev ((wordsOf s).map (fun p => (p.1 : Int))) (by simp; omega)
  obtain ⟨K5, e5⟩ := alive01
  dsimp only at e1 e2 e3 e4 e5
  refine ⟨max K1 (max K2 (max K3 (max K4 K5))), ?_⟩
  simp only [recantlaw01_WordLines.f]
  rw [if_pos hmn.2.1, if_pos hmn.2.2, ← hs, e1 _ (by omega), Option.bind_some, e2 _ (by omega), Option.bind_some, e5 _ (by omega), Option.bind_some, if_pos rfl]
  dsimp only
  rw [e3 _ (by omega), Option.bind_some, if_pos rfl, e4 _ (by omega), Option.bind_some]

end Go.Proofs.Ythkpocgbinmeiaa.Pure

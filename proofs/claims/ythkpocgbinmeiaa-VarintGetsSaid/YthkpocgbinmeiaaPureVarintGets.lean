/- Proved: the number that any bytes tell from any place on, and the place behind it, or the error, and where, are as the reference says. No condition. -/
import Derived.Test.YthkpocgbinmeiaaP2
import Derived.Test.YthkpocgbinmeiaaUVarint
namespace Go.Proofs.Ythkpocgbinmeiaa.Pure
open Go.RowKit Go.Proofs.Ythkpocgbinmeiaa.P Go.Proofs.YthkpocgbinmeiaaW.PrintWords Go.Proofs.YthkpocgbinmeiaaW.PrintLast Go.Proofs.YthkpocgbinmeiaaW.PrintMore Go.Proofs.Ythkpocgbinmeiaa.U

theorem VarintGets : recantlaw03_VarintGets.Pure := by
  intro l a _ _ hw _
  have hmn : (mn (l.length : Int) 60).toNat ≤ 60 ∧ 0 ≤ mn (l.length : Int) 60 ∧ mn (l.length : Int) 60 ≤ l.length := by unfold mn; split <;> omega
  obtain ⟨r, ⟨K, e1⟩, ⟨K', e2⟩⟩ := get_same (l.take (mn (l.length : Int) 60).toNat) (fun x hx => bounds_u8 (hw x (List.mem_of_mem_take hx))) (by simp; omega) a
  obtain ⟨K2, e3⟩ := alive_yes
  refine ⟨max K (max K' K2), ?_⟩
  simp only [recantlaw03_VarintGets.f]
  dsimp only at e1 e2 e3
  rw [if_pos hmn.2.1, if_pos hmn.2.2, Option.bind_some, e1 _ (by omega), Option.bind_some, e2 _ (by omega), Option.bind_some, e3 _ (by omega), Option.bind_some]
  simp

end Go.Proofs.Ythkpocgbinmeiaa.Pure

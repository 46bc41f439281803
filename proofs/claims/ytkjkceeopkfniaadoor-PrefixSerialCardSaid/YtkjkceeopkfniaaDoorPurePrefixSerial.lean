/- Proved: whether transactions are one after the other, of any events, is as the document says, or refused. Condition: the program's table of kinds lies in memory as its text lays it (the card ties that to the text). -/
import Derived.Test.YtkjkceeopkfniaaDoorUProper
import Derived.Test.YtkjkceeopkfniaaDoorUSerial
import Derived.Test.YtkjkceeopkfniaaDoorP4
namespace Go.Proofs.YtkjkceeopkfniaaDoor.Pure
set_option linter.unusedVariables false
set_option linter.unusedSimpArgs false
open Go Go.RowKit Go.Proofs.YtkjkceeopkfniaaDoor.P Go.Proofs.YtkjkceeopkfniaaDoorW.PrintWords Go.Proofs.YtkjkceeopkfniaaDoorW.PrintLast Go.Proofs.YtkjkceeopkfniaaDoorW.PrintMore Go.Proofs.YtkjkceeopkfniaaDoor.U

theorem alive08 : recantlaw08_alive.f = some true := by decide +kernel
theorem PrefixSerial (l : List S36) (hl : l.length ≤ 9223372036854775807) : ∃ k, recantlaw08_PrefixSerial.f k l = some true := by
  have hmn : (mn (l.length : Int) 65).toNat ≤ 65 ∧ 0 ≤ mn (l.length : Int) 65 ∧ mn (l.length : Int) 65 ≤ l.length := by unfold mn; split <;> omega
  obtain ⟨b, hb⟩ : ∃ b, b = l.take (mn (l.length : Int) 65).toNat := ⟨_, rfl⟩
  have hbl : b.length ≤ 1000 := by rw [hb, List.length_take]; omega
  obtain ⟨K1, e1⟩ := why_ev b hbl
  obtain ⟨K2, e2⟩ := pserial b hbl
  refine ⟨max K1 K2, ?_⟩
  have e1 := e1 (max K1 K2) (by omega)
  have e2 := e2 (max K1 K2) (by omega)
  dsimp only at e1 e2
  have hs : prefix_Serial.f b = some (if whyB b = 0 then (!((tabT b).any (apartB b)), 0) else (false, whyB b)) := by
    unfold prefix_Serial.f whyB
    cases rightsB b with
    | false => rfl
    | true =>
      rw [if_pos rfl, if_pos rfl]
      by_cases h : (runI noF b : Int) < b.length
      · rw [if_pos h, if_pos h]; rfl
      · rw [if_neg h, if_neg h]; rfl
  unfold recantlaw08_PrefixSerial.f
  rw [if_pos hmn.2.1, if_pos hmn.2.2, ← hb, Option.bind_some, hs, Option.bind_some, e1, Option.bind_some, alive08]
  by_cases h0 : whyB b = 0
  · rw [if_pos h0, if_pos h0, Option.bind_some, if_pos rfl, if_pos rfl, e2, Option.bind_some]
    simp
  · rw [if_neg h0, if_neg h0, Option.bind_some, if_pos rfl, if_pos rfl]
    rfl
end Go.Proofs.YtkjkceeopkfniaaDoor.Pure

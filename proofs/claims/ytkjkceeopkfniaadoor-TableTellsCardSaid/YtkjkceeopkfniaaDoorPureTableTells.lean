/- Proved: the transactions of any events are as the document says, or refused. Condition: the program's table of kinds lies in memory as its text lays it (the card ties that to the text). -/
import Derived.Test.YtkjkceeopkfniaaDoorUTabRef
import Derived.Test.YtkjkceeopkfniaaDoorGSame
import Derived.Test.YtkjkceeopkfniaaDoorP7
namespace Go.Proofs.YtkjkceeopkfniaaDoor.Pure
set_option linter.unusedVariables false
set_option linter.unusedSimpArgs false
open Go Go.RowKit Go.Proofs.YtkjkceeopkfniaaDoor.P Go.Proofs.YtkjkceeopkfniaaDoorW.PrintWords Go.Proofs.YtkjkceeopkfniaaDoorW.PrintLast Go.Proofs.YtkjkceeopkfniaaDoorW.PrintMore Go.Proofs.YtkjkceeopkfniaaDoor.U

theorem alive06 : recantlaw06_alive.f = some true := by decide +kernel
theorem eqO_refl (x : S52) : eqO x x = true := by unfold eqO; simp
theorem eqOs_refl : ∀ l : List S52, eqOs l l = true
  | [] => rfl
  | x :: t => by show (eqO x x && eqOs t t) = true; rw [eqO_refl, eqOs_refl t]; rfl
theorem eqTs_refl : ∀ l : List S34, eqTs l l = true
  | [] => rfl
  | x :: t => by
    show (eqT x x && eqTs t t) = true
    rw [eqTs_refl t]
    unfold eqT
    rw [eqOs_refl]
    simp
theorem TableTells (l : List S36) (hl : l.length ≤ 9223372036854775807) : ∃ k, recantlaw06_TableTells.f k l = some true := by
  have hmn : (mn (l.length : Int) 65).toNat ≤ 65 ∧ 0 ≤ mn (l.length : Int) 65 ∧ mn (l.length : Int) 65 ≤ l.length := by unfold mn; split <;> omega
  obtain ⟨b, hb⟩ : ∃ b, b = l.take (mn (l.length : Int) 65).toNat := ⟨_, rfl⟩
  have hbl : b.length ≤ 1000 := by rw [hb, List.length_take]; omega
  obtain ⟨K1, e1⟩ := why_ev b hbl
  obtain ⟨K2, e2⟩ := ptable_f b hbl
  refine ⟨max K1 K2, ?_⟩
  have e1 := e1 (max K1 K2) (by omega)
  have e2 := e2 (max K1 K2) (by omega)
  dsimp only at e1 e2
  have hs : table_Table.f b = some (if whyB b = 0 then (tabT b, 0) else ([], whyB b)) := by
    unfold table_Table.f whyB
    cases rightsB b with
    | false => rfl
    | true =>
      rw [if_pos rfl, if_pos rfl]
      by_cases h : (runI noF b : Int) < b.length
      · rw [if_pos h, if_pos h]; rfl
      · rw [if_neg h, if_neg h]; rfl
  unfold recantlaw06_TableTells.f
  rw [if_pos hmn.2.1, if_pos hmn.2.2, ← hb, Option.bind_some, hs, Option.bind_some, e1, Option.bind_some, alive06]
  by_cases h0 : whyB b = 0
  · rw [if_pos h0, if_pos h0, Option.bind_some, if_pos rfl, if_pos rfl, e2, Option.bind_some, tab_doc h0]
    unfold recantref06_Same.f
    rw [eqTs_refl]
    rfl
  · rw [if_neg h0, if_neg h0, Option.bind_some, if_pos rfl, if_pos rfl]
    rfl
end Go.Proofs.YtkjkceeopkfniaaDoor.Pure

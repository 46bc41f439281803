/- Proved: a transaction's events alone tell its name, its state and its operations. Condition: the program's table of kinds lies in memory as its text lays it (the card ties that to the text). -/
import Derived.Test.YtkjkceeopkfniaaDoorUAlone
import Derived.Test.YtkjkceeopkfniaaDoorGAlone
namespace Go.Proofs.YtkjkceeopkfniaaDoor.Pure
set_option linter.unusedVariables false
set_option linter.unusedSimpArgs false
open Go Go.RowKit Go.Proofs.YtkjkceeopkfniaaDoor.P Go.Proofs.YtkjkceeopkfniaaDoorW.PrintWords Go.Proofs.YtkjkceeopkfniaaDoorW.PrintLast Go.Proofs.YtkjkceeopkfniaaDoorW.PrintMore Go.Proofs.YtkjkceeopkfniaaDoor.U

theorem alive06 : recantlaw06_alive.f = some true := by decide +kernel
theorem same_self (s : List S52) (hs : s.length ≤ 100) (d : Nat) : ∀ (i k : Nat), i + d = s.length → d + 1 ≤ k → recantref06_OpsSame.l0 k s s (s.length : Int) (i : Int) = some true := by
  induction d with
  | zero =>
    intro i k hi hk
    obtain ⟨k, rfl⟩ : ∃ m, k = m + 1 := ⟨k - 1, by omega⟩
    simp only [recantref06_OpsSame.l0]
    rw [if_neg (by omega)]
  | succ d ih =>
    intro i k hi hk
    obtain ⟨k, rfl⟩ : ∃ m, k = m + 1 := ⟨k - 1, by omega⟩
    have e := ih (i + 1) k (by omega) (by omega)
    simp only [recantref06_OpsSame.l0]
    rw [if_pos (by omega), if_pos (by omega), if_pos (by omega), if_pos (by omega), w64 (by omega) (by omega), show ((i : Int) + 1) = ((i + 1 : Nat) : Int) by omega, e]
    simp
theorem same_self_f (s : List S52) (hs : s.length ≤ 99) : recantref06_OpsSame.f 100 s s = some true := by
  unfold recantref06_OpsSame.f
  rw [if_pos (by omega)]
  exact same_self s (by omega) s.length 0 100 (by omega) (by omega)
theorem tab_ok {b : List S36} {l : List S34} (h : table_Table.f b = some (l, 0)) : whyB b = 0 ∧ l = tabT b := by
  rw [why_table b] at h
  by_cases h0 : whyB b = 0
  · rw [if_pos h0] at h
    exact ⟨h0, (congrArg Prod.fst (Option.some.inj h)).symm⟩
  · rw [if_neg h0] at h
    exact absurd (congrArg Prod.snd (Option.some.inj h)) h0
theorem alone (b : List S36) (hb : b.length ≤ 65) : AloneH 100 b := by
  refine ⟨alive06, ?_, ?_⟩
  · intro l e h he
    rw [why_table b] at h
    by_cases h0 : whyB b = 0
    · rw [if_pos h0] at h
      exact absurd (congrArg Prod.snd (Option.some.inj h)).symm he
    · rw [if_neg h0] at h
      exact (congrArg Prod.fst (Option.some.inj h)).symm
  · intro l h i hi
    obtain ⟨h0, rfl⟩ := tab_ok h
    rw [tab_len h0] at hi
    have hrd := tab_rd h0 i hi
    have hm : (namesF b)[i] ∈ namesF b := List.getElem_mem hi
    obtain ⟨n, hn⟩ : ∃ n, n = (namesF b)[i] := ⟨_, rfl⟩
    rw [← hn] at hrd hm
    obtain ⟨q1, _, q3⟩ := only_ref n b
    have hol := opsR_len b n []
    refine ⟨txnK (refK (b.filter (keepE n)) n), ?_, ?_, ?_, ?_, ?_⟩
    · rw [hrd]; exact only_table h0 hm
    · rw [hrd]; rfl
    · rw [hrd]
      show stF (lastK (b.filter (keepE n)) n) = stF (lastK b n)
      rw [q1]
    · exact only_first n b hm
    · rw [hrd]
      show recantref06_OpsSame.f 100 (opsR [] (b.filter (keepE n)) n) (opsR [] b n) = some true
      rw [q3]
      exact same_self_f _ (by omega)
theorem TableAlone (l : List S36) (hl : l.length ≤ 9223372036854775807) : ∃ k, recantlaw06_TableAlone.f k l ∧ true = true :=
  ⟨100, alone _ (by rw [List.length_take]; omega), rfl⟩
end Go.Proofs.YtkjkceeopkfniaaDoor.Pure

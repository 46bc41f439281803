/- The document's Has, Names, Variable, Value, plainly. -/
import Derived.Test.YtkjkceeopkfniaaDoorUNum
import Derived.Test.YtkjkceeopkfniaaDoorGRight
import Derived.Test.YtkjkceeopkfniaaDoorP1
namespace Go.Proofs.YtkjkceeopkfniaaDoor.U
set_option linter.unusedVariables false
set_option linter.unusedSimpArgs false
open Go Go.RowKit Go.Proofs.YtkjkceeopkfniaaDoor.P Go.Proofs.YtkjkceeopkfniaaDoorW.PrintWords Go.Proofs.YtkjkceeopkfniaaDoorW.PrintLast Go.Proofs.YtkjkceeopkfniaaDoorW.PrintMore

theorem phas (l : List Int) (a : Int) (hl : l.length < 1000000) (d : Nat) : ∀ i : Nat, i + d = l.length → Ev (fun k => recantref02_Has.l0 k a l (l.length : Int) (i : Int)) ((l.drop i).contains a) := by
  induction d with
  | zero =>
    intro i hi
    refine ⟨1, fun k hk => ?_⟩
    obtain ⟨k, rfl⟩ : ∃ m, k = m + 1 := ⟨k - 1, by omega⟩
    simp only [recantref02_Has.l0]
    rw [if_neg (by omega), show i = l.length by omega, List.drop_length]; rfl
  | succ d ih =>
    intro i hi
    obtain ⟨K, e⟩ := ih (i + 1) (by omega)
    refine ⟨K + 1, fun k hk => ?_⟩
    obtain ⟨k, rfl⟩ : ∃ m, k = m + 1 := ⟨k - 1, by omega⟩
    simp only [recantref02_Has.l0]
    rw [if_pos (by omega), if_pos (by omega), if_pos (by omega), List.drop_eq_getElem_cons (by omega : i < l.length)]
    have hg : rd l (i : Int) = l[i]'(by omega) := by unfold rd; simp [List.getD_eq_getElem?_getD, List.getElem?_eq_getElem (show i < l.length by omega)]
    rw [hg, List.contains_cons]
    by_cases h : l[i]'(by omega) = a
    · rw [if_pos h, h]; simp
    · rw [if_neg h, w64 (by omega) (by omega), show ((i : Int) + 1) = ((i + 1 : Nat) : Int) by omega]
      have := e k (by omega)
      dsimp only at this
      rw [this]
      congr 1
      have hne : (a == l[i]'(by omega)) = false := by
        rw [beq_eq_false_iff_ne]; exact fun h2 => h h2.symm
      rw [hne, Bool.false_or]
theorem phas_f (l : List Int) (a : Int) (hl : l.length < 1000000) : Ev (fun k => recantref02_Has.f k l a) (l.contains a) := by
  have := phas l a hl l.length 0 (by omega)
  rw [List.drop_zero] at this
  exact this
theorem pnames (evs : List S36) (hl : evs.length ≤ 1000) (d : Nat) : ∀ i : Nat, i + d = evs.length → Ev (fun k => recantref02_Names.l0 k (namesF (evs.take i)) evs (evs.length : Int) (i : Int)) (namesF evs) := by
  induction d with
  | zero =>
    intro i hi
    refine ⟨1, fun k hk => ?_⟩
    obtain ⟨k, rfl⟩ : ∃ m, k = m + 1 := ⟨k - 1, by omega⟩
    simp only [recantref02_Names.l0]
    rw [if_neg (by omega), show i = evs.length by omega, List.take_length]
  | succ d ih =>
    intro i hi
    obtain ⟨K, e⟩ := ih (i + 1) (by omega)
    have hnl := names_len (evs.take i)
    rw [List.length_take] at hnl
    obtain ⟨K2, e2⟩ := phas_f (namesF (evs.take i)) (rd_T36 evs (i : Int)).f1 (by omega)
    refine ⟨max K K2 + 1, fun k hk => ?_⟩
    obtain ⟨k, rfl⟩ : ∃ m, k = m + 1 := ⟨k - 1, by omega⟩
    have e := e k (by omega)
    have e2 := e2 k (by omega)
    rw [take_snocE evs i (by omega), names_snoc] at e
    dsimp only at e e2
    simp only [recantref02_Names.l0]
    rw [if_pos (by omega), if_pos (by omega), if_pos (by omega), e2, Option.bind_some, w64 (by omega) (by omega), show ((i : Int) + 1) = ((i + 1 : Nat) : Int) by omega]
    unfold addN at e
    by_cases hc : (namesF (evs.take i)).contains (rd_T36 evs (i : Int)).f1 = true
    · rw [if_pos hc]
      rw [if_pos hc] at e
      exact e
    · rw [if_neg hc, if_pos (by omega)]
      rw [if_neg hc] at e
      exact e
theorem pnames_f (evs : List S36) (hl : evs.length ≤ 1000) : Ev (fun k => recantref02_Names.f k evs) (namesF evs) := pnames evs hl evs.length 0 (by omega)
theorem pvar (k : Int) : recantref02_Variable.f k = some (varB k) := by
  unfold recantref02_Variable.f varB
  by_cases h : k = 2 <;> simp [h]
theorem pval (k : Int) : recantref02_Value.f k = some (valB k) := by
  unfold recantref02_Value.f valB
  by_cases h : k = 3 <;> simp [h]
end Go.Proofs.YtkjkceeopkfniaaDoor.U

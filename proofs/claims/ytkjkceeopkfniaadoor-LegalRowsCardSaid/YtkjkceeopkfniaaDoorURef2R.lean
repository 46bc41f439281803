/- The document's Right, plainly. -/
import Derived.Test.YtkjkceeopkfniaaDoorURef2
import Derived.Test.YtkjkceeopkfniaaDoorP2
import Derived.Test.YtkjkceeopkfniaaDoorP1
namespace Go.Proofs.YtkjkceeopkfniaaDoor.U
set_option linter.unusedVariables false
set_option linter.unusedSimpArgs false
open Go Go.RowKit Go.Proofs.YtkjkceeopkfniaaDoor.P Go.Proofs.YtkjkceeopkfniaaDoorW.PrintWords Go.Proofs.YtkjkceeopkfniaaDoorW.PrintLast Go.Proofs.YtkjkceeopkfniaaDoorW.PrintMore

theorem inB_iff (n lo hi : Int) : inB n lo hi = true ↔ lo ≤ n ∧ n ≤ hi := by unfold inB; simp
theorem inB_no (n lo hi : Int) (h : ¬ (lo ≤ n ∧ n ≤ hi)) : inB n lo hi = false := by
  rw [Bool.eq_false_iff]; exact fun hc => h ((inB_iff n lo hi).1 hc)
theorem pright (e : S36) : ∀ k, recantref02_right.f (k + 1) e.f0 e.f1 e.f2 e.f3 = some (rightB e) := by
  intro k
  unfold recantref02_right.f rightB
  by_cases h0 : 0 ≤ e.f0 ∧ e.f0 ≤ 9
  · rw [if_neg (by omega), if_neg (by omega), (inB_iff _ _ _).2 h0, Bool.true_and]
    by_cases h1 : 0 ≤ e.f1 ∧ e.f1 ≤ 9999
    · rw [if_neg (by omega), if_neg (by omega), (inB_iff _ _ _).2 h1, Bool.true_and]
      by_cases h2 : 0 ≤ e.f2 ∧ e.f2 ≤ 7
      · rw [if_neg (by omega), if_neg (by omega), (inB_iff _ _ _).2 h2, Bool.true_and]
        have hn : recantref01_Number.f e.f3 = some (inB e.f3 (-2147483648) 2147483647) := by
          unfold recantref01_Number.f inB
          by_cases h : e.f3 ≥ -2147483648
          · rw [if_pos h, decide_eq_true (by omega : -2147483648 ≤ e.f3), Bool.true_and]
          · rw [if_neg h, decide_eq_false (by omega : ¬ -2147483648 ≤ e.f3), Bool.false_and]
        rw [hn, Option.bind_some]
        simp only [recantref02_right.j0]
        rw [pvar, Option.bind_some, pval, Option.bind_some]
        cases hi : inB e.f3 (-2147483648) 2147483647 with
        | false =>
          rw [if_pos (show (!false) = true from rfl)]
          have hne : e.f3 ≠ 0 := by
            intro h
            rw [h] at hi
            exact absurd hi (by decide)
          have : (e.f3 == 0) = false := by simpa using hne
          rw [this]; simp
        | true =>
          rw [if_neg (by simp)]
          cases varB e.f0 <;> cases valB e.f0 <;> by_cases h20 : e.f2 = 0 <;> simp [h20]
      · have h2n : (e.f2 == 0) = false := by rw [beq_eq_false_iff_ne]; omega
        rw [inB_no _ _ _ h2, h2n]
        simp only [recantref02_right.j0]
        by_cases hlt : e.f2 < 0
        · rw [if_pos hlt]; simp
        · rw [if_neg hlt, if_pos (by omega)]; simp
    · rw [inB_no _ _ _ h1]
      simp only [recantref02_right.j0]
      by_cases hlt : e.f1 < 0
      · rw [if_pos hlt]; simp
      · rw [if_neg hlt, if_pos (by omega)]; simp
  · rw [inB_no _ _ _ h0]
    simp only [recantref02_right.j0]
    by_cases hlt : e.f0 < 0
    · rw [if_pos hlt]; simp
    · rw [if_neg hlt, if_pos (by omega)]; simp
theorem drop_consE (l : List S36) (i : Nat) (h : i < l.length) : l.drop i = rd_T36 l (i : Int) :: l.drop (i + 1) := by
  rw [List.drop_eq_getElem_cons h]
  congr 1
  unfold rd_T36; rw [Int.toNat_natCast, List.getD_eq_getElem?_getD, List.getElem?_eq_getElem h]; rfl
theorem prights (l : List S36) (hl : l.length ≤ 1000) (d : Nat) : ∀ i : Nat, i + d = l.length → Ev (fun k => recantref02_Right.l0 k l l (l.length : Int) (i : Int)) (decide (l.length ≤ 60) && ((!(l.drop i).any fun x => !rightB x) && decide ((namesF l).length ≤ 6))) := by
  induction d with
  | zero =>
    intro i hi
    obtain ⟨K, e⟩ := pnames_f l hl
    refine ⟨K + 1, fun k hk => ?_⟩
    obtain ⟨k, rfl⟩ : ∃ m, k = m + 1 := ⟨k - 1, by omega⟩
    have e := e k (by omega)
    dsimp only at e
    simp only [recantref02_Right.l0]
    rw [if_neg (by omega), show i = l.length by omega, List.drop_length]
    by_cases h : l.length ≤ 60
    · rw [if_pos (by omega), e, Option.bind_some, decide_eq_true h]
      simp
      omega
    · rw [if_neg (by omega), decide_eq_false h]; rfl
  | succ d ih =>
    intro i hi
    obtain ⟨K, e⟩ := ih (i + 1) (by omega)
    refine ⟨K + 2, fun k hk => ?_⟩
    obtain ⟨k, rfl⟩ : ∃ m, k = m + 2 := ⟨k - 2, by omega⟩
    have e := e (k + 1) (by omega)
    dsimp only at e
    rw [show k + 2 = (k + 1) + 1 from rfl]
    have hstep : recantref02_Right.l0 ((k + 1) + 1) l l (l.length : Int) (i : Int) = if rightB (rd_T36 l (i : Int)) = true then recantref02_Right.l0 (k + 1) l l (l.length : Int) ((i + 1 : Nat) : Int) else some false := by
      obtain ⟨q, hq⟩ : ∃ q, q = k + 1 := ⟨_, rfl⟩
      have hp := pright (rd_T36 l (i : Int)) k
      rw [← hq] at hp ⊢
      simp only [recantref02_Right.l0]
      rw [if_pos (by omega), if_pos (by omega), if_pos (by omega), hp, Option.bind_some, w64 (by omega) (by omega), show ((i : Int) + 1) = ((i + 1 : Nat) : Int) by omega]
    show recantref02_Right.l0 ((k + 1) + 1) l l (l.length : Int) (i : Int) = _
    rw [hstep, drop_consE l i (by omega), List.any_cons]
    cases hr : rightB (rd_T36 l (i : Int)) with
    | true => rw [if_pos rfl, e]; simp
    | false => rw [if_neg (by simp)]; simp
theorem prights_f (l : List S36) (hl : l.length ≤ 1000) : Ev (fun k => recantref02_Right.f k l) (rightsB l) := by
  have := prights l hl l.length 0 (by omega)
  rw [List.drop_zero] at this
  exact this
end Go.Proofs.YtkjkceeopkfniaaDoor.U

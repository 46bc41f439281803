/- Proved: the least cycle, and whether a row is one, are as the document says, for every input. No condition. -/
import Derived.Test.YtimbamimabdmcaaP4
import Derived.Test.YtimbamimabdmcaaUCycle
namespace Go.Proofs.Ytimbamimabdmcaa.Pure
set_option linter.unusedVariables false
set_option linter.unusedSimpArgs false
open Go Go.RowKit Go.Proofs.Ytimbamimabdmcaa.P Go.Proofs.YtimbamimabdmcaaW.PrintWords Go.Proofs.YtimbamimabdmcaaW.PrintLast Go.Proofs.YtimbamimabdmcaaW.PrintMore Go.Proofs.Ytimbamimabdmcaa.U

theorem wf_u32 {x : Int} (h : (Lit.int .u32 x).wf = true) : 0 ≤ x ∧ x < 4294967296 := by
  have := bounds_u32 h; omega
theorem mn_take {α : Type} (l : List α) (c : Int) (hc : 0 ≤ c) : 0 ≤ mn (l.length : Int) c ∧ mn (l.length : Int) c ≤ (l.length : Int) ∧ ((l.take (mn (l.length : Int) c).toNat).length : Int) ≤ c := by
  unfold mn
  refine ⟨by split <;> omega, by split <;> omega, ?_⟩
  rw [List.length_take]
  split <;> omega
theorem anyBad (n : Nat) (l : List Int) : l.any (fun x => decide (x < 0 ∨ (n : Int) ≤ x)) = false ↔ InN n l := by
  rw [List.any_eq_false]
  constructor
  · intro h x hx
    have := h x hx
    rw [decide_eq_true_eq] at this
    omega
  · intro h x hx
    have := h x hx
    rw [decide_eq_true_eq]
    omega
/-- The row's places, one by one, then the walk. -/
theorem cl_loop (l0 row : List Int) (hu : InU l0) (hn : l0.length ≤ 6) (hl : row.length ≤ 10) (x7 : Bool) (x8 : Int)
    (h : (if row.any (fun x => decide (x < 0 ∨ (l0.length : Int) ≤ x)) = true then (x7 = false ∧ x8 = 7) else (x7 = walkS l0 row ∧ x8 = 0))) (d : Nat) :
    ∀ i : Nat, i + d = row.length → (∀ j : Nat, j < i → 0 ≤ rd row (j : Int) ∧ rd row (j : Int) < l0.length) → Ev (fun k => recantlaw18_CycleLeast.l0 k l0 row x7 x8 row (row.length : Int) (i : Int)) true := by
  induction d with
  | zero =>
    intro i hi hall
    have hin : InN l0.length row := by
      intro x hx
      obtain ⟨j, hj, rfl⟩ := List.mem_iff_getElem.1 hx
      have := hall j (by omega)
      have hs := rd_some hj
      rw [List.getElem?_eq_getElem hj] at hs
      rw [Option.some.inj hs]; exact this
    rw [(anyBad _ _).2 hin, if_neg (by simp)] at h
    obtain ⟨K, e⟩ := rwalk_f l0 row hu (by omega) hin (by omega)
    refine ⟨K + 1, fun k hk => ?_⟩
    obtain ⟨k, rfl⟩ : ∃ m, k = m + 1 := ⟨k - 1, by omega⟩
    simp only [recantlaw18_CycleLeast.l0]
    have e' := e k (by omega)
    dsimp only at e'
    rw [if_neg (by omega), if_pos h.2, e', Option.bind_some, h.1]; simp
  | succ d ih =>
    intro i hi hall
    by_cases hb : rd row (i : Int) < 0 ∨ (l0.length : Int) ≤ rd row (i : Int)
    · have hany : row.any (fun x => decide (x < 0 ∨ (l0.length : Int) ≤ x)) = true := by
        rw [List.any_eq_true]; exact ⟨_, rd_mem (l := row) (i := i) (by omega), decide_eq_true hb⟩
      rw [hany, if_pos rfl] at h
      refine ⟨1, fun k hk => ?_⟩
      obtain ⟨k, rfl⟩ : ∃ m, k = m + 1 := ⟨k - 1, by omega⟩
      simp only [recantlaw18_CycleLeast.l0]
      rw [if_pos (by omega), if_pos (by omega), if_pos (by omega)]
      by_cases h0 : rd row (i : Int) < 0
      · rw [if_pos h0, if_pos h.2, h.1]; rfl
      · rw [if_neg h0, if_pos (by omega), if_pos h.2, h.1]; rfl
    · obtain ⟨K, e⟩ := ih (i + 1) (by omega) (fun j hj => by
        rcases Nat.lt_or_ge j i with h1 | h1
        · exact hall j h1
        · rw [show j = i by omega]; omega)
      refine ⟨K + 1, fun k hk => ?_⟩
      obtain ⟨k, rfl⟩ : ∃ m, k = m + 1 := ⟨k - 1, by omega⟩
      simp only [recantlaw18_CycleLeast.l0]
      rw [if_pos (by omega), if_pos (by omega), if_pos (by omega), if_neg (by omega), if_neg (by omega), w64 (by omega) (by omega), show ((i : Int) + 1) = ((i + 1 : Nat) : Int) by omega]
      exact e k (by omega)
theorem res_none (l0 : List Int) (d : Nat) : ∀ L, 1 ≤ L → ((resS l0 d L).2 == 7) = (((resS l0 d L).1.length : Int) == 0) ∧ ((resS l0 d L).2 = 0 ∨ (resS l0 d L).2 = 7) ∧ (resS l0 d L).1.length ≤ L + d := by
  induction d with
  | zero => intro L hL; exact ⟨rfl, .inr rfl, Nat.zero_le _⟩
  | succ d ih =>
    intro L hL
    unfold resS
    cases hf : (rowsR l0.length L).find? (walkS l0) with
    | some r =>
      obtain ⟨a, _, _⟩ := rows_in _ _ r (List.mem_of_find?_eq_some hf)
      dsimp only
      refine ⟨?_, .inl rfl, by omega⟩
      have : ((r.length : Int) == 0) = false := by rw [beq_eq_false_iff_ne]; omega
      rw [this]; rfl
    | none =>
      dsimp only
      obtain ⟨a, b, c⟩ := ih (L + 1) (by omega)
      exact ⟨a, b, by omega⟩
theorem CycleLeast : recantlaw18_CycleLeast.Pure := by
  intro m0 m1 _ _ hw0 _ _ _
  obtain ⟨t1, t2, t3⟩ := mn_take m0 8 (by decide)
  obtain ⟨t4, t5, t6⟩ := mn_take m1 10 (by decide)
  obtain ⟨l0, hl0⟩ : ∃ l, l = m0.take (mn (m0.length : Int) 8).toNat := ⟨_, rfl⟩
  obtain ⟨row, hrow⟩ : ∃ l, l = m1.take (mn (m1.length : Int) 10).toNat := ⟨_, rfl⟩
  rw [← hl0] at t3
  rw [← hrow] at t6
  have hu : InU l0 := fun x hx => wf_u32 (hw0 x (by rw [hl0] at hx; exact List.mem_of_mem_take hx))
  obtain ⟨Km, em⟩ := may_f l0 hu (by omega)
  obtain ⟨Ka, ea⟩ := alive18
  have hlf := least_f l0 hu
  dsimp only at em ea
  by_cases hm : mayB l0 = true
  · have hn : l0.length ≤ 6 := by unfold mayB at hm; simp only [Bool.and_eq_true, decide_eq_true_eq] at hm; exact hm.1
    rw [if_pos hm] at hlf
    obtain ⟨Kr, er⟩ := rleast_f l0 hu hn
    obtain ⟨q1, q2, q3⟩ := res_none l0 l0.length 1 (Nat.le_refl _)
    obtain ⟨r, hr⟩ : ∃ r, r = resS l0 l0.length 1 := ⟨_, rfl⟩
    rw [← hr] at hlf er q1 q2 q3
    obtain ⟨Ki, ei⟩ := ints_f r.1 r.1 (by omega)
    have hwalk : ∃ x7 x8, cycle_Walk.f l0 row = some (x7, x8) ∧ (if row.any (fun x => decide (x < 0 ∨ (l0.length : Int) ≤ x)) = true then (x7 = false ∧ x8 = 7) else (x7 = walkS l0 row ∧ x8 = 0)) := by
      unfold cycle_Walk.f
      rw [if_pos (show ∀ x ∈ l0, 0 ≤ x ∧ x < 4294967296 from hu), if_pos hm]
      by_cases hb : row.any (fun x => decide (x < 0 ∨ (l0.length : Int) ≤ x)) = true
      · rw [if_pos hb]; exact ⟨_, _, rfl, by rw [if_pos hb]; exact ⟨rfl, rfl⟩⟩
      · rw [if_neg hb]; exact ⟨_, _, rfl, by rw [if_neg hb]; exact ⟨walk_eq l0 row hu hn ((anyBad _ _).1 (Bool.eq_false_iff.2 hb)), rfl⟩⟩
    obtain ⟨x7, x8, hw, hwc⟩ := hwalk
    obtain ⟨Kl, el⟩ := cl_loop l0 row hu hn (by omega) x7 x8 hwc row.length 0 (by omega) (fun j hj => by omega)
    dsimp only at er ei el
    have hj : ∀ k, Kl + 1 ≤ k → recantlaw18_CycleLeast.j0 k l0 row x7 x8 false = some true := by
      intro k hk
      obtain ⟨k, rfl⟩ : ∃ m, k = m + 1 := ⟨k - 1, by omega⟩
      simp only [recantlaw18_CycleLeast.j0]
      rw [if_neg (by simp)]
      exact el k (by omega)
    refine ⟨Km + Ka + Kr + Ki + Kl + 1, ?_⟩
    simp only [recantlaw18_CycleLeast.f]
    rw [if_pos t1, if_pos t2, ← hl0, Option.bind_some, if_pos t4, if_pos t5, ← hrow, Option.bind_some, hlf, Option.bind_some, hw, Option.bind_some, em _ (by omega), Option.bind_some, if_pos hm, er _ (by omega), Option.bind_some]
    rw [if_neg (by rw [q1]; simp), ei _ (by omega)]
    simp only [Option.bind_some]
    rw [ea _ (by omega)]
    simp only [Option.bind_some, decide_true, if_true, Bool.not_true]
    rw [hj _ (by omega)]
    rcases q2 with h | h
    · rw [if_pos h]
    · rw [if_neg (by omega), if_pos h]
  · rw [if_neg hm] at hlf
    have hw : cycle_Walk.f l0 row = some (false, 1) := by
      unfold cycle_Walk.f
      rw [if_pos (show ∀ x ∈ l0, 0 ≤ x ∧ x < 4294967296 from hu), if_neg hm]
    refine ⟨Km + Ka, ?_⟩
    simp only [recantlaw18_CycleLeast.f]
    rw [if_pos t1, if_pos t2, ← hl0, Option.bind_some, if_pos t4, if_pos t5, ← hrow, Option.bind_some, hlf, Option.bind_some, hw, Option.bind_some, em _ (by omega), Option.bind_some, if_neg hm, ea _ (by omega), Option.bind_some, if_pos rfl]
    rfl
end Go.Proofs.Ytimbamimabdmcaa.Pure

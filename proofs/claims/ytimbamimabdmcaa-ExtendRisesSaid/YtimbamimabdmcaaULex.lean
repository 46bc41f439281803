/- Rows rise as words in a lexicon; the least cycle. -/
import Derived.Test.YtimbamimabdmcaaUCycle
namespace Go.Proofs.Ytimbamimabdmcaa.U
set_option linter.unusedVariables false
set_option linter.unusedSimpArgs false
open Go Go.RowKit Go.Proofs.Ytimbamimabdmcaa.P Go.Proofs.YtimbamimabdmcaaW.PrintWords Go.Proofs.YtimbamimabdmcaaW.PrintLast Go.Proofs.YtimbamimabdmcaaW.PrintMore

/-! ### rows rise -/
def lexLt : List Int → List Int → Prop
  | a :: s, b :: t => a < b ∨ (a = b ∧ lexLt s t)
  | _, _ => False
theorem lex_snoc (r : List Int) (x y : Int) (h : x < y) : lexLt (r ++ [x]) (r ++ [y]) := by
  induction r with
  | nil => exact .inl h
  | cons a r ih => exact .inr ⟨rfl, ih⟩
theorem lex_append (a b x y : List Int) (h : lexLt a b) : lexLt (a ++ x) (b ++ y) := by
  induction a generalizing b with
  | nil => cases b <;> exact h.elim
  | cons c a ih =>
    cases b with
    | nil => exact h.elim
    | cons d b =>
      rcases h with h | ⟨h, h2⟩
      · exact .inl h
      · exact .inr ⟨h, ih b h2⟩
theorem rows_rise (n L : Nat) : List.Pairwise lexLt (rowsR n L) := by
  induction L with
  | zero => simp [rowsR]
  | succ L ih =>
    simp only [rowsR]
    rw [List.pairwise_flatMap]
    constructor
    · intro r _
      unfold nexts
      rw [List.pairwise_map]
      refine List.Pairwise.imp ?_ (List.Pairwise.filter _ List.pairwise_lt_range)
      intro x y h
      exact lex_snoc r _ _ (by omega)
    · refine ih.imp ?_
      intro r s h x hx y hy
      unfold nexts at hx hy
      obtain ⟨j, _, rfl⟩ := List.mem_map.1 hx
      obtain ⟨k, _, rfl⟩ := List.mem_map.1 hy
      exact lex_append r s _ _ h
theorem find_first {α : Type} (R : α → α → Prop) (w : α → Bool) (xs : List α) (hp : List.Pairwise R xs) (m l : α) (hf : xs.find? w = some m) (hl : l ∈ xs) (hw : w l = true) : m = l ∨ R m l := by
  induction xs with
  | nil => cases hl
  | cons x xs ih =>
    rw [List.pairwise_cons] at hp
    rw [List.find?_cons] at hf
    cases hx : w x with
    | true =>
      rw [hx] at hf
      obtain rfl := Option.some.inj hf
      rcases List.mem_cons.1 hl with h | h
      · exact .inl h.symm
      · exact .inr (hp.1 l h)
    | false =>
      rw [hx] at hf
      rcases List.mem_cons.1 hl with h | h
      · subst h; rw [hx] at hw; cases hw
      · exact ih hp.2 hf h
theorem res_found (l0 : List Int) (d : Nat) : ∀ L, (resS l0 d L).2 = 0 → ∃ L', L ≤ L' ∧ L' < L + d ∧ (resS l0 d L).1 ∈ rowsR l0.length L' ∧ walkS l0 (resS l0 d L).1 = true := by
  induction d with
  | zero => intro L h; exact absurd h (by show ¬ ((7 : Int) = 0); decide)
  | succ d ih =>
    intro L h
    unfold resS at h ⊢
    cases hf : (rowsR l0.length L).find? (walkS l0) with
    | some r =>
      dsimp only
      exact ⟨L, Nat.le_refl _, by omega, List.mem_of_find?_eq_some hf, List.find?_some hf⟩
    | none =>
      rw [hf] at h
      dsimp only at h ⊢
      obtain ⟨L', a, b, c, e⟩ := ih (L + 1) h
      exact ⟨L', by omega, by omega, c, e⟩
theorem res_least (l0 : List Int) (d : Nat) : ∀ L r L', L ≤ L' → L' < L + d → r ∈ rowsR l0.length L' → walkS l0 r = true → (resS l0 d L).2 = 0 ∧ ((resS l0 d L).1.length < r.length ∨ ((resS l0 d L).1.length = r.length ∧ ((resS l0 d L).1 = r ∨ lexLt (resS l0 d L).1 r))) := by
  induction d with
  | zero => intro L r L' h1 h2; omega
  | succ d ih =>
    intro L r L' h1 h2 hr hw
    obtain ⟨hrl, _, _⟩ := rows_in _ _ r hr
    unfold resS
    cases hf : (rowsR l0.length L).find? (walkS l0) with
    | some m =>
      dsimp only
      obtain ⟨hml, _, _⟩ := rows_in _ _ m (List.mem_of_find?_eq_some hf)
      refine ⟨rfl, ?_⟩
      rcases Nat.eq_or_lt_of_le h1 with e | e
      · subst e
        exact .inr ⟨by omega, find_first lexLt _ _ (rows_rise _ _) m r hf hr hw⟩
      · left; omega
    | none =>
      dsimp only
      refine ih (L + 1) r L' ?_ (by omega) hr hw
      rcases Nat.eq_or_lt_of_le h1 with e | e
      · subst e
        have := List.find?_eq_none.1 hf r hr
        exact absurd hw this
      · exact e
theorem res_none (l0 : List Int) (d : Nat) : ∀ L, 1 ≤ L → ((resS l0 d L).2 == 7) = (((resS l0 d L).1.length : Int) == 0) ∧ ((resS l0 d L).2 = 0 ∨ (resS l0 d L).2 = 7) ∧ (resS l0 d L).1.length ≤ L + d := by
  induction d with
  | zero => intro L hL; exact ⟨rfl, .inr rfl, Nat.zero_le _⟩
  | succ d ih =>
    intro L hL
    unfold resS
    cases hf : (rowsR l0.length L).find? (walkS l0) with
    | some r =>
      obtain ⟨a, _, _⟩ := rows_in _ _ r (List.mem_of_find?_eq_some hf)
      dsimp only
      refine ⟨?_, .inl rfl, by omega⟩
      have : ((r.length : Int) == 0) = false := by rw [beq_eq_false_iff_ne]; omega
      rw [this]; rfl
    | none =>
      dsimp only
      obtain ⟨a, b, c⟩ := ih (L + 1) (by omega)
      exact ⟨a, b, by omega⟩
end Go.Proofs.Ytimbamimabdmcaa.U

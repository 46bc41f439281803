/- Plain facts: a transaction's events alone. -/
import Derived.Test.YtkjkceeopkfniaaDoorUGrows
import Derived.Test.YtkjkceeopkfniaaDoorGOf2
namespace Go.Proofs.YtkjkceeopkfniaaDoor.U
set_option linter.unusedVariables false
set_option linter.unusedSimpArgs false
open Go Go.RowKit Go.Proofs.YtkjkceeopkfniaaDoor.P Go.Proofs.YtkjkceeopkfniaaDoorW.PrintWords Go.Proofs.YtkjkceeopkfniaaDoorW.PrintLast Go.Proofs.YtkjkceeopkfniaaDoorW.PrintMore

theorem keep_yes {n : Int} {e : S36} (h : e.f1 = n) : keepE n e = true := by unfold keepE; exact beq_iff_eq.2 h
theorem keep_no {n : Int} {e : S36} (h : ¬ e.f1 = n) : ¬ keepE n e = true := by unfold keepE; exact fun q => h (beq_iff_eq.1 q)
theorem only_snoc (n : Int) (p : List S36) (e : S36) : (p ++ [e]).filter (keepE n) = if e.f1 = n then p.filter (keepE n) ++ [e] else p.filter (keepE n) := by
  rw [List.filter_append]
  by_cases h : e.f1 = n
  · rw [if_pos h, List.filter_cons_of_pos (keep_yes h)]; rfl
  · rw [if_neg h, List.filter_cons_of_neg (keep_no h)]; exact List.append_nil _
theorem only_run (n : Int) : ∀ (t : List S36) (g g' : Int → Option Int), g' n = g n → runI g t = t.length → runI g' (t.filter (keepE n)) = (t.filter (keepE n)).length
  | [], _, _, _, _ => rfl
  | e :: t, g, g', hg, h => by
    unfold runI at h
    cases hn : nextS ((g e.f1).getD 0) e.f0 with
    | none => rw [hn] at h; simp at h
    | some s =>
      rw [hn] at h
      dsimp only at h
      rw [List.length_cons] at h
      by_cases he : e.f1 = n
      · rw [List.filter_cons_of_pos (keep_yes he)]
        unfold runI
        have hn2 := hn
        rw [he, ← hg] at hn2
        rw [he, hn2]
        dsimp only
        rw [List.length_cons, only_run n t (setF g e.f1 s) (setF g' n s) (by simp [setF, he]) (by omega)]
      · rw [List.filter_cons_of_neg (keep_no he)]
        exact only_run n t (setF g e.f1 s) g' (by unfold setF; rw [if_neg (fun q => he q.symm)]; exact hg) (by omega)
theorem only_names (n : Int) (p : List S36) : (n ∈ namesF p → namesF (p.filter (keepE n)) = [n]) ∧ (n ∉ namesF p → p.filter (keepE n) = []) := by
  refine snoc_ind (P := fun p => (n ∈ namesF p → namesF (p.filter (keepE n)) = [n]) ∧ (n ∉ namesF p → p.filter (keepE n) = [])) ⟨fun h => (by cases h), fun _ => rfl⟩ ?_ p
  rintro p e ⟨h1, h2⟩
  rw [only_snoc, names_snoc, mem_addN]
  by_cases he : e.f1 = n
  · rw [if_pos he]
    refine ⟨fun _ => ?_, fun q => absurd (.inr he.symm) q⟩
    rw [names_snoc]
    unfold addN
    by_cases hm : n ∈ namesF p
    · rw [h1 hm, he]; simp
    · rw [h2 hm, he]; rfl
  · rw [if_neg he]
    exact ⟨fun q => h1 (q.elim id (fun q => absurd q.symm he)), fun q => h2 (fun w => q (.inl w))⟩
theorem only_ref (n : Int) (p : List S36) : lastK (p.filter (keepE n)) n = lastK p n ∧ lastE (p.filter (keepE n)) n = lastE p n ∧ opsR [] (p.filter (keepE n)) n = opsR [] p n := by
  refine snoc_ind (P := fun p => lastK (p.filter (keepE n)) n = lastK p n ∧ lastE (p.filter (keepE n)) n = lastE p n ∧ opsR [] (p.filter (keepE n)) n = opsR [] p n) ⟨rfl, rfl, rfl⟩ ?_ p
  rintro p e ⟨h1, h2, h3⟩
  rw [only_snoc]
  by_cases he : e.f1 = n
  · rw [if_pos he, last_snoc, last_snoc, lastE_snoc, lastE_snoc, opsR_snoc, opsR_snoc, h1, h3, List.nil_append, List.nil_append, h2]
    exact ⟨rfl, rfl, rfl⟩
  · rw [if_neg he, last_snoc, lastE_snoc, opsR_snoc, if_neg he, if_neg he, List.append_nil]
    unfold lastS
    rw [if_neg he]
    exact ⟨h1, h2, h3⟩
theorem only_first (n : Int) (p : List S36) : n ∈ namesF p → (FL (p.filter (keepE n)) n).1 = 0 := by
  refine snoc_ind (P := fun p => n ∈ namesF p → (FL (p.filter (keepE n)) n).1 = 0) (fun h => (by cases h)) ?_ p
  intro p e ih
  rw [names_snoc, mem_addN, only_snoc]
  intro h
  by_cases he : e.f1 = n
  · rw [if_pos he, FL_snoc]
    unfold flS
    rw [if_pos he]
    dsimp only
    by_cases hm : n ∈ namesF p
    · rw [if_neg (by rw [ih hm]; omega)]
      exact ih hm
    · rw [(only_names n p).2 hm, if_pos (show (FL [] n).1 < 0 from (show (-1 : Int) < 0 by omega))]
      rfl
  · rw [if_neg he]
    exact ih (h.elim id (fun q => absurd q.symm he))
theorem only_why {b : List S36} (h : whyB b = 0) (n : Int) : whyB (b.filter (keepE n)) = 0 := by
  obtain ⟨hr, hl, _⟩ := why_steps h
  have hle := runI_le b (noF : Int → Option Int)
  have hf := only_run n b noF noF rfl (by omega)
  have hr2 : rightsB (b.filter (keepE n)) = true := by
    unfold rightsB at hr ⊢
    simp only [Bool.and_eq_true, Bool.not_eq_true', decide_eq_true_eq] at hr ⊢
    refine ⟨Nat.le_trans (List.length_filter_le _ _) hr.1, ?_, ?_⟩
    · rw [List.any_eq_false]
      rw [List.any_eq_false] at hr
      exact fun x hx => hr.2.1 x (List.mem_filter.1 hx).1
    · by_cases hm : n ∈ namesF b
      · rw [(only_names n b).1 hm]; simp
      · rw [(only_names n b).2 hm]; simp [namesF]
  unfold whyB
  rw [if_pos hr2, if_neg (by omega)]
/-- The one transaction of a name's events alone. -/
theorem only_table {b : List S36} (h : whyB b = 0) {n : Int} (hm : n ∈ namesF b) : table_Table.f (b.filter (keepE n)) = some ([txnK (refK (b.filter (keepE n)) n)], 0) := by
  have h1 := only_why h n
  rw [why_table, if_pos h1, tab_doc h1, (only_names n b).1 hm]
  rfl
end Go.Proofs.YtkjkceeopkfniaaDoor.U

/- Plain facts: how the table of events grows. -/
import Derived.Test.YtkjkceeopkfniaaDoorUTabX
namespace Go.Proofs.YtkjkceeopkfniaaDoor.U
set_option linter.unusedVariables false
set_option linter.unusedSimpArgs false
open Go Go.RowKit Go.Proofs.YtkjkceeopkfniaaDoor.P Go.Proofs.YtkjkceeopkfniaaDoorW.PrintWords Go.Proofs.YtkjkceeopkfniaaDoorW.PrintLast Go.Proofs.YtkjkceeopkfniaaDoorW.PrintMore

theorem names_pre (p t : List S36) : ∃ s, namesF (p ++ t) = namesF p ++ s := by
  refine snoc_ind (P := fun t => ∃ s, namesF (p ++ t) = namesF p ++ s) ⟨[], by rw [List.append_nil, List.append_nil]⟩ ?_ t
  rintro t e ⟨s, hs⟩
  rw [← List.append_assoc, names_snoc, hs]
  unfold addN
  split
  · exact ⟨s, rfl⟩
  · exact ⟨s ++ [e.f1], by rw [List.append_assoc]⟩
theorem names_nod (p : List S36) : (namesF p).Nodup := by
  refine snoc_ind (P := fun p => (namesF p).Nodup) List.nodup_nil ?_ p
  intro p e ih
  rw [names_snoc]
  unfold addN
  split
  · exact ih
  · rename_i h
    rw [List.nodup_append]
    refine ⟨ih, by simp, ?_⟩
    intro a ha c hc
    rw [List.mem_singleton] at hc
    subst hc
    rintro rfl
    exact h (List.contains_iff_mem.2 ha)
theorem fl_bound (p : List S36) (n : Int) (h : n ∈ namesF p) : 0 ≤ (FL p n).1 ∧ (FL p n).1 ≤ (FL p n).2 ∧ (FL p n).2 < p.length := by
  revert h
  refine snoc_ind (P := fun p => n ∈ namesF p → 0 ≤ (FL p n).1 ∧ (FL p n).1 ≤ (FL p n).2 ∧ (FL p n).2 < p.length) ?_ ?_ p
  · intro h; cases h
  · intro p e ih h
    rw [names_snoc, mem_addN] at h
    have hl : ((p ++ [e]).length : Int) = p.length + 1 := by rw [List.length_append]; simp
    rw [FL_snoc, hl]
    unfold flS
    by_cases he : e.f1 = n
    · rw [if_pos he]
      dsimp only
      by_cases hm : n ∈ namesF p
      · have := ih hm
        rw [if_neg (by omega)]
        omega
      · rw [(absent p n hm).1, if_pos (by decide)]
        omega
    · rw [if_neg he]
      have := ih (h.elim id (fun q => absurd q.symm he))
      omega
theorem fl_first (p : List S36) (e : S36) (n : Int) (h : n ∈ namesF p) : (FL (p ++ [e]) n).1 = (FL p n).1 := by
  have := fl_bound p n h
  rw [FL_snoc]
  unfold flS
  by_cases he : e.f1 = n
  · rw [if_pos he]
    dsimp only
    rw [if_neg (by omega)]
  · rw [if_neg he]
theorem fl_rise (p : List S36) : (namesF p).Pairwise (fun m n => (FL p m).1 < (FL p n).1) := by
  refine snoc_ind (P := fun p => (namesF p).Pairwise (fun m n => (FL p m).1 < (FL p n).1)) List.Pairwise.nil ?_ p
  intro p e ih
  have h1 : (namesF p).Pairwise (fun m n => (FL (p ++ [e]) m).1 < (FL (p ++ [e]) n).1) := by
    refine List.Pairwise.imp_of_mem ?_ ih
    intro a c ha hc hlt
    rw [fl_first p e a ha, fl_first p e c hc]
    exact hlt
  rw [names_snoc]
  unfold addN
  split
  · exact h1
  · rename_i h
    rw [List.pairwise_append]
    refine ⟨h1, List.pairwise_singleton _ _, ?_⟩
    intro a ha c hc
    rw [List.mem_singleton] at hc
    subst hc
    rw [fl_first p e a ha, FL_snoc]
    unfold flS
    rw [if_pos rfl, (absent p e.f1 (fun q => h (List.contains_iff_mem.2 q))).1]
    dsimp only
    rw [if_pos (by decide)]
    have := fl_bound p a ha
    omega
def ansB (n : Int) (e : S36) : Bool := (e.f1 == n) && ((e.f0 == 3) || (e.f0 == 5))
def cntA (p : List S36) (n : Int) : Nat := (p.filter (ansB n)).length
theorem cnt_snoc (p : List S36) (e : S36) (n : Int) : cntA (p ++ [e]) n = cntA p n + (if ansB n e = true then 1 else 0) := by
  unfold cntA
  rw [List.filter_append, List.length_append]
  congr 1
  by_cases h : ansB n e = true
  · rw [if_pos h, List.filter_cons_of_pos h]; rfl
  · rw [if_neg h, List.filter_cons_of_neg h]; rfl
theorem ops_cnt (p : List S36) (n : Int) : (opsR [] p n).length = cntA p n := by
  refine snoc_ind (P := fun p => (opsR [] p n).length = cntA p n) rfl ?_ p
  intro p e ih
  rw [opsR_snoc, List.length_append, ih, cnt_snoc]
  congr 1
  unfold ansB opsS
  by_cases he : e.f1 = n
  · rw [if_pos he]
    by_cases h3 : e.f0 = 3
    · rw [if_pos h3]; simp [he, h3]
    · rw [if_neg h3]
      by_cases h5 : e.f0 = 5
      · rw [if_pos h5]; simp [he, h5]
      · rw [if_neg h5]; simp [h3, h5]
  · rw [if_neg he]
    simp [he]
theorem ref_pre (p t : List S36) (n : Int) (h : n ∈ namesF p) : (FL (p ++ t) n).1 = (FL p n).1 ∧ (FL p n).2 ≤ (FL (p ++ t) n).2 ∧ ∃ s, opsR [] (p ++ t) n = opsR [] p n ++ s := by
  refine snoc_ind (P := fun t => (FL (p ++ t) n).1 = (FL p n).1 ∧ (FL p n).2 ≤ (FL (p ++ t) n).2 ∧ ∃ s, opsR [] (p ++ t) n = opsR [] p n ++ s) ?_ ?_ t
  · rw [List.append_nil]
    exact ⟨rfl, Int.le_refl _, [], by rw [List.append_nil]⟩
  · rintro t e ⟨h1, h2, s, hs⟩
    have hm : n ∈ namesF (p ++ t) := by
      obtain ⟨s2, e2⟩ := names_pre p t
      rw [e2]
      exact List.mem_append_left _ h
    have hb := fl_bound p n h
    rw [← List.append_assoc]
    refine ⟨by rw [fl_first _ e n hm, h1], ?_, ?_⟩
    · rw [FL_snoc]
      unfold flS
      by_cases he : e.f1 = n
      · rw [if_pos he]
        dsimp only
        rw [List.length_append]
        omega
      · rw [if_neg he]
        exact h2
    · rw [opsR_snoc, hs]
      exact ⟨s ++ _, by rw [List.append_assoc]⟩
theorem first_take (t : List S36) : ∀ (p : List S36) (k : Nat), firstR p t = t.length → firstR p (t.take k) = (t.take k).length := by
  induction t with
  | nil => intro p k _; rw [List.take_nil]; rfl
  | cons e t ih =>
    intro p k h
    cases k with
    | zero => rfl
    | succ k =>
      unfold firstR at h
      by_cases hm : mayB (lastK p e.f1) e.f0 = true
      · rw [if_pos hm, List.length_cons] at h
        show (if mayB (lastK p e.f1) e.f0 = true then firstR (p ++ [e]) (t.take k) + 1 else 0) = (t.take k).length + 1
        rw [if_pos hm, ih (p ++ [e]) k (by omega)]
      · rw [if_neg hm] at h
        simp at h
theorem rights_take {l : List S36} (h : rightsB l = true) (k : Nat) : rightsB (l.take k) = true := by
  unfold rightsB at h ⊢
  simp only [Bool.and_eq_true, Bool.not_eq_true', decide_eq_true_eq] at h ⊢
  refine ⟨by rw [List.length_take]; omega, ?_, ?_⟩
  · rw [List.any_eq_false] at h ⊢
    exact fun x hx => h.2.1 x (List.mem_of_mem_take hx)
  · obtain ⟨s, hs⟩ := names_pre (l.take k) (l.drop k)
    rw [List.take_append_drop] at hs
    have := h.2.2
    rw [hs, List.length_append] at this
    omega
theorem why_take {l : List S36} (h : whyB l = 0) (k : Nat) : whyB (l.take k) = 0 := by
  obtain ⟨hr, hl, _⟩ := why_steps h
  have hle := runI_le l (noF : Int → Option Int)
  have h1 := first_take l [] k (by rw [run_first l hr]; omega)
  have hr2 := rights_take hr k
  unfold whyB
  rw [if_pos hr2, if_neg (by rw [← run_first _ hr2, h1]; omega)]
theorem why_table (l : List S36) : table_Table.f l = some (if whyB l = 0 then (tabT l, 0) else ([], whyB l)) := by
  unfold table_Table.f whyB
  cases rightsB l with
  | false => rfl
  | true =>
    rw [if_pos rfl, if_pos rfl]
    by_cases h : (runI noF l : Int) < l.length
    · rw [if_pos h, if_pos h]; rfl
    · rw [if_neg h, if_neg h]; rfl
theorem tab_len {l : List S36} (h : whyB l = 0) : (tabT l).length = (namesF l).length := by
  rw [tab_doc h, List.length_map]
theorem tab_rd {l : List S36} (h : whyB l = 0) (i : Nat) (hi : i < (namesF l).length) : rd_T34 (tabT l) (i : Int) = txnK (refK l (namesF l)[i]) := by
  unfold rd_T34
  rw [tab_doc h, Int.toNat_natCast, List.getD_eq_getElem?_getD, List.getElem?_map, List.getElem?_eq_getElem hi]
  rfl
end Go.Proofs.YtkjkceeopkfniaaDoor.U

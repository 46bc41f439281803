/- Plain facts about rows of events that are alike. -/
import Derived.Test.YtkjkceeopkfniaaDoorGAlike
import Derived.Test.YtkjkceeopkfniaaDoorUTab
namespace Go.Proofs.YtkjkceeopkfniaaDoor.U
set_option linter.unusedVariables false
set_option linter.unusedSimpArgs false
open Go Go.RowKit Go.Proofs.YtkjkceeopkfniaaDoor.P Go.Proofs.YtkjkceeopkfniaaDoorW.PrintWords Go.Proofs.YtkjkceeopkfniaaDoorW.PrintLast Go.Proofs.YtkjkceeopkfniaaDoorW.PrintMore

abbrev ofL (l : List S36) (n : Int) : List S36 := l.filter (keepE n)
def AlikeP (a b : List S36) : Prop := ∀ n, ofL a n = ofL b n
theorem keepE_iff (n : Int) (e : S36) : keepE n e = true ↔ e.f1 = n := by unfold keepE; exact beq_iff_eq
theorem of_empty {l : List S36} {n : Int} (h : ∀ e ∈ l, e.f1 ≠ n) : ofL l n = [] := by
  unfold ofL
  rw [List.filter_eq_nil_iff]
  intro e he hk
  exact h e he ((keepE_iff n e).1 hk)
theorem alike_iff (a b : List S36) : alikeB a b = true ↔ AlikeP a b := by
  unfold alikeB AlikeP
  rw [List.all_eq_true]
  constructor
  · intro h n
    by_cases hn : ∃ e ∈ a ++ b, e.f1 = n
    · obtain ⟨e, he, rfl⟩ := hn
      exact (eqL_iff _ _).1 (h e he)
    · rw [of_empty (fun e he h1 => hn ⟨e, List.mem_append_left _ he, h1⟩), of_empty (fun e he h1 => hn ⟨e, List.mem_append_right _ he, h1⟩)]
  · intro h e _
    exact (eqL_iff _ _).2 (h e.f1)
theorem mem_of {l : List S36} {e : S36} : e ∈ l ↔ e ∈ ofL l e.f1 := by
  unfold ofL
  rw [List.mem_filter]
  exact ⟨fun h => ⟨h, (keepE_iff _ _).2 rfl⟩, fun h => h.1⟩
theorem alike_mem {a b : List S36} (h : AlikeP a b) (e : S36) : e ∈ a ↔ e ∈ b := by
  rw [mem_of, mem_of (l := b), h e.f1]
theorem split_len (l : List S36) (n : Int) : l.length = (ofL l n).length + (l.filter (fun e => !keepE n e)).length := by
  unfold ofL
  induction l with
  | nil => rfl
  | cons e t ih =>
    by_cases h : keepE n e = true
    · simp [h]; omega
    · have h' : keepE n e = false := by simpa using h
      simp [h']; omega
theorem of_rest (l : List S36) (n m : Int) : ofL (l.filter (fun e => !keepE n e)) m = if m = n then [] else ofL l m := by
  unfold ofL
  rw [List.filter_filter]
  by_cases h : m = n
  · rw [if_pos h, List.filter_eq_nil_iff]
    intro e _
    subst h
    cases keepE m e <;> simp
  · rw [if_neg h]
    apply List.filter_congr
    intro e _
    unfold keepE
    by_cases he : e.f1 = m
    · have h2 : (e.f1 == n) = false := beq_eq_false_iff_ne.2 (fun q => h (he.symm.trans q))
      rw [h2]; simp
    · have : (e.f1 == m) = false := beq_eq_false_iff_ne.2 he
      rw [this, Bool.false_and]
theorem alike_len (N : Nat) : ∀ a b : List S36, a.length ≤ N → AlikeP a b → a.length = b.length := by
  induction N with
  | zero =>
    intro a b ha h
    have : a = [] := List.eq_nil_of_length_eq_zero (by omega)
    subst this
    cases b with
    | nil => rfl
    | cons e t => exact absurd ((alike_mem h e).2 List.mem_cons_self) (by simp)
  | succ N ih =>
    intro a b ha h
    cases a with
    | nil =>
      cases b with
      | nil => rfl
      | cons e t => exact absurd ((alike_mem h e).2 List.mem_cons_self) (by simp)
    | cons e t =>
      have h1 := split_len (e :: t) e.f1
      have h2 := split_len b e.f1
      have hpos : 0 < (ofL (e :: t) e.f1).length := List.length_pos_of_mem (mem_of.1 List.mem_cons_self)
      have h3 := ih ((e :: t).filter (fun x => !keepE e.f1 x)) (b.filter (fun x => !keepE e.f1 x)) (by omega) (fun m => by rw [of_rest, of_rest, h m])
      rw [h1, h2, h3, h e.f1]
def sumN (a : List S36) (L : List Int) : Nat := (L.map fun n => (ofL a n).length).sum
theorem sum_all (L : List Int) : ∀ a : List S36, L.Nodup → (∀ e ∈ a, e.f1 ∈ L) → sumN a L = a.length := by
  induction L with
  | nil =>
    intro a _ h
    cases a with
    | nil => rfl
    | cons e t => exact absurd (h e List.mem_cons_self) (by simp)
  | cons n L ih =>
    intro a hd h
    rw [List.nodup_cons] at hd
    have h1 := split_len a n
    have h2 := ih (a.filter (fun e => !keepE n e)) hd.2 (fun e he => by
      rw [List.mem_filter] at he
      rcases List.mem_cons.1 (h e he.1) with h3 | h3
      · have h4 : keepE n e = true := (keepE_iff n e).2 h3
        rw [h4] at he
        simp at he
      · exact h3)
    have h3 : sumN (a.filter (fun e => !keepE n e)) L = sumN a L := by
      unfold sumN
      congr 1
      apply List.map_congr_left
      intro m hm
      rw [of_rest, if_neg (by rintro rfl; exact hd.1 hm)]
    show (ofL a n).length + sumN a L = a.length
    rw [← h3, h2, ← h1]
theorem names_mem (l : List S36) : ∀ n, n ∈ namesF l ↔ ∃ e ∈ l, e.f1 = n := by
  have gen : ∀ (l : List S36) (acc : List Int) (n : Int), n ∈ l.foldl addN acc ↔ n ∈ acc ∨ ∃ e ∈ l, e.f1 = n := by
    intro l
    induction l with
    | nil => intro acc n; simp
    | cons e t ih =>
      intro acc n
      rw [List.foldl_cons, ih]
      unfold addN
      by_cases hc : acc.contains e.f1 = true
      · rw [if_pos hc]
        constructor
        · rintro (h | ⟨x, hx, hn⟩)
          · exact .inl h
          · exact .inr ⟨x, List.mem_cons_of_mem _ hx, hn⟩
        · rintro (h | ⟨x, hx, hn⟩)
          · exact .inl h
          · rcases List.mem_cons.1 hx with rfl | hx
            · exact .inl (by rw [← hn]; exact List.contains_iff_mem.1 hc)
            · exact .inr ⟨x, hx, hn⟩
      · rw [if_neg hc, List.mem_append]
        constructor
        · rintro ((h | h) | ⟨x, hx, hn⟩)
          · exact .inl h
          · exact .inr ⟨e, List.mem_cons_self, by have : n = e.f1 := by simpa using h
                                                  exact this.symm⟩
          · exact .inr ⟨x, List.mem_cons_of_mem _ hx, hn⟩
        · rintro (h | ⟨x, hx, hn⟩)
          · exact .inl (.inl h)
          · rcases List.mem_cons.1 hx with rfl | hx
            · exact .inl (.inr (by simp [hn]))
            · exact .inr ⟨x, hx, hn⟩
  intro n
  unfold namesF
  rw [gen]
  simp
theorem names_nodup (l : List S36) : (namesF l).Nodup := by
  have gen : ∀ (l : List S36) (acc : List Int), acc.Nodup → (l.foldl addN acc).Nodup := by
    intro l
    induction l with
    | nil => intro acc h; exact h
    | cons e t ih =>
      intro acc h
      rw [List.foldl_cons]
      apply ih
      unfold addN
      by_cases hc : acc.contains e.f1 = true
      · rw [if_pos hc]; exact h
      · rw [if_neg hc, List.nodup_append]
        refine ⟨h, by simp, ?_⟩
        intro x hx y hy he
        have : y = e.f1 := by simpa using hy
        subst this
        subst he
        exact hc (List.contains_iff_mem.2 hx)
  exact gen l [] List.nodup_nil
theorem nodup_le (L : List Int) : ∀ M : List Int, L.Nodup → (∀ x ∈ L, x ∈ M) → L.length ≤ M.length := by
  induction L with
  | nil => intro M _ _; exact Nat.zero_le _
  | cons x L ih =>
    intro M hd h
    rw [List.nodup_cons] at hd
    have hx := h x List.mem_cons_self
    have h1 := ih (M.erase x) hd.2 (fun y hy => by
      rw [List.mem_erase_of_ne (fun e => hd.1 (by rw [← e]; exact hy))]
      exact h y (List.mem_cons_of_mem _ hy))
    rw [List.length_erase_of_mem hx] at h1
    have := List.length_pos_of_mem hx
    simp
    omega
/-- A transaction's events, one by one. -/
def seqOK : Int → List S36 → Bool
  | _, [] => true
  | s, e :: t => match nextS s e.f0 with
    | some s2 => seqOK s2 t
    | none => false
theorem run_full (l : List S36) : ∀ g : Int → Option Int, runI g l = l.length ↔ ∀ n, seqOK ((g n).getD 0) (ofL l n) = true := by
  induction l with
  | nil => intro g; exact ⟨fun _ n => rfl, fun _ => rfl⟩
  | cons e t ih =>
    intro g
    have hof : ∀ n, ofL (e :: t) n = if e.f1 = n then e :: ofL t n else ofL t n := by
      intro n
      unfold ofL
      by_cases h : e.f1 = n
      · rw [if_pos h, List.filter_cons_of_pos ((keepE_iff n e).2 h)]
      · rw [if_neg h, List.filter_cons_of_neg (fun hk => h ((keepE_iff n e).1 hk))]
    unfold runI
    cases hn : nextS ((g e.f1).getD 0) e.f0 with
    | none =>
      dsimp only
      constructor
      · intro h; simp at h
      · intro h
        have := h e.f1
        rw [hof, if_pos rfl] at this
        unfold seqOK at this
        rw [hn] at this
        cases this
    | some s =>
      dsimp only
      have hlen : (e :: t).length = t.length + 1 := rfl
      rw [hlen]
      have hiff : runI (setF g e.f1 s) t + 1 = t.length + 1 ↔ runI (setF g e.f1 s) t = t.length := by omega
      rw [hiff, ih]
      constructor
      · intro h n
        rw [hof]
        by_cases he : e.f1 = n
        · subst he
          rw [if_pos rfl]
          unfold seqOK
          rw [hn]
          have := h e.f1
          unfold setF at this
          rw [if_pos rfl] at this
          exact this
        · rw [if_neg he]
          have := h n
          unfold setF at this
          rw [if_neg (fun q => he q.symm)] at this
          exact this
      · intro h n
        have h1 := h n
        rw [hof] at h1
        unfold setF
        by_cases he : e.f1 = n
        · subst he
          rw [if_pos rfl] at h1 ⊢
          unfold seqOK at h1
          rw [hn] at h1
          exact h1
        · rw [if_neg he] at h1
          rw [if_neg (fun q => he q.symm)]
          exact h1
theorem rights_parts (l : List S36) : rightsB l = true ↔ l.length ≤ 60 ∧ (∀ e ∈ l, rightB e = true) ∧ (namesF l).length ≤ 6 := by
  unfold rightsB
  rw [Bool.and_eq_true, Bool.and_eq_true, decide_eq_true_iff, decide_eq_true_iff, Bool.not_eq_true', List.any_eq_false]
  constructor
  · rintro ⟨h1, h2, h3⟩
    exact ⟨h1, fun e he => by simpa using h2 e he, h3⟩
  · rintro ⟨h1, h2, h3⟩
    exact ⟨h1, fun e he => by simpa using h2 e he, h3⟩
theorem alike_proper {a b : List S36} (h : AlikeP a b) (hr : rightsB a = true) (hf : runI noF a = a.length) : rightsB b = true ∧ runI noF b = b.length := by
  obtain ⟨h1, h2, h3⟩ := (rights_parts a).1 hr
  have hl := alike_len a.length a b (Nat.le_refl _) h
  refine ⟨(rights_parts b).2 ⟨by omega, fun e he => h2 e ((alike_mem h e).2 he), ?_⟩, ?_⟩
  · refine Nat.le_trans (nodup_le (namesF b) (namesF a) (names_nodup b) (fun n hn => ?_)) h3
    obtain ⟨e, he, hen⟩ := (names_mem b n).1 hn
    exact (names_mem a n).2 ⟨e, (alike_mem h e).2 he, hen⟩
  · rw [run_full] at hf ⊢
    intro n
    have := hf n
    rw [show ofL b n = ofL a n from (h n).symm]
    exact this
end Go.Proofs.YtkjkceeopkfniaaDoor.U

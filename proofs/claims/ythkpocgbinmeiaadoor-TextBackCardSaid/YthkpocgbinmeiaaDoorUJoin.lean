/- Texts joined, plainly. -/
import Derived.Test.YthkpocgbinmeiaaDoorURows
import Derived.Test.YthkpocgbinmeiaaDoorUNames
namespace Go.Proofs.YthkpocgbinmeiaaDoor.U
set_option linter.unusedVariables false
set_option linter.unusedSimpArgs false
open Go Go.RowKit Go.Proofs.YthkpocgbinmeiaaDoor.P Go.Proofs.YthkpocgbinmeiaaDoorW.PrintWords Go.Proofs.YthkpocgbinmeiaaDoorW.PrintLast Go.Proofs.YthkpocgbinmeiaaDoorW.PrintMore

theorem split10 : ∀ l : List UInt8, (∀ c ∈ l, c ≠ 10) ∨ ∃ p q, l = p ++ 10 :: q ∧ ∀ c ∈ p, c ≠ 10
  | [] => .inl (by simp)
  | b :: l => by
    by_cases hb : b = 10
    · exact .inr ⟨[], l, by rw [hb]; rfl, by simp⟩
    · rcases split10 l with h | ⟨p, q, h1, h2⟩
      · left
        intro c hc
        rcases List.mem_cons.1 hc with h3 | h3
        · rw [h3]; exact hb
        · exact h c h3
      · right
        refine ⟨b :: p, q, by rw [h1]; rfl, ?_⟩
        intro c hc
        rcases List.mem_cons.1 hc with h3 | h3
        · rw [h3]; exact hb
        · exact h2 c h3
theorem rows_join (n : Nat) : ∀ l m : List UInt8, l.length ≤ n → rowsS ⟨(l ++ 10 :: m).toArray⟩ = rowsS ⟨l.toArray⟩ ++ rowsS ⟨m.toArray⟩ := by
  induction n with
  | zero =>
    intro l m h
    have : l = [] := List.length_eq_zero_iff.1 (by omega)
    subst this
    have h1 := rows_two ⟨(([] : List UInt8) ++ 10 :: m).toArray⟩ [] m (by simp) (by simp)
    have h2 := rows_one ⟨([] : List UInt8).toArray⟩ (by simp)
    rw [h1, h2]
    rfl
  | succ n ih =>
    intro l m h
    rcases split10 l with h1 | ⟨p, q, h1, h2⟩
    · rw [rows_two ⟨(l ++ 10 :: m).toArray⟩ l m (by simp) h1, rows_one ⟨l.toArray⟩ (by simpa using h1)]
      rfl
    · subst h1
      rw [rows_two ⟨((p ++ 10 :: q) ++ 10 :: m).toArray⟩ p (q ++ 10 :: m) (by simp) h2, rows_two ⟨(p ++ 10 :: q).toArray⟩ p q (by simp) h2, ih q m (by simp at h; omega)]
      rfl
theorem rows_joinS (s t : ByteArray) : rowsS ((s ++ (⟨#[10]⟩ : ByteArray)) ++ t) = rowsS s ++ rowsS t := by
  have h := rows_join s.data.toList.length s.data.toList t.data.toList (Nat.le_refl _)
  have e1 : (⟨(s.data.toList ++ 10 :: t.data.toList).toArray⟩ : ByteArray) = (s ++ (⟨#[10]⟩ : ByteArray)) ++ t := by
    apply ext_list
    simp
  have e2 : (⟨s.data.toList.toArray⟩ : ByteArray) = s := by apply ext_list; simp
  have e3 : (⟨t.data.toList.toArray⟩ : ByteArray) = t := by apply ext_list; simp
  rw [e1, e2, e3] at h
  exact h
theorem sumN_cons (s : ByteArray) (L : List ByteArray) : sumN (s :: L) = (s.size + 1) + sumN L := by simp [sumN]
theorem lines_app (L M : List ByteArray) : ∀ (fr : Int) (evs a : List S34) (x : Int), linesT L fr evs = (a, x, 0) → linesT (L ++ M) fr evs = linesT M (fr + sumN L) a := by
  induction L with
  | nil =>
    intro fr evs a x h
    rw [linesT] at h
    simp only [Prod.mk.injEq] at h
    obtain ⟨rfl, _, _⟩ := h
    rw [List.nil_append]
    simp [sumN]
  | cons s t ih =>
    intro fr evs a x h
    have hs : fr + ((s.size : Int) + 1) + (sumN t : Int) = fr + (sumN (s :: t) : Int) := by rw [sumN_cons]; omega
    rw [List.cons_append, linesT]
    rw [linesT] at h
    by_cases h0 : (wsS s).length = 0
    · rw [if_pos h0] at h ⊢
      rw [ih _ _ _ _ h, hs]
    · rw [if_neg h0] at h ⊢
      by_cases hb : (tev (wsS s) (shift fr (atsS s)) (fr + s.size) evs).2.2 ≠ 0
      · rw [if_pos hb] at h
        simp only [Prod.mk.injEq] at h
        exact absurd h.2.2 hb
      · rw [if_neg hb] at h ⊢
        rw [ih _ _ _ _ h, hs]
theorem lines_pre (L : List ByteArray) : ∀ (fr : Int) (evs a : List S34) (x : Int), linesT L fr evs = (a, x, 0) → ∃ hs, a = evs ++ hs := by
  induction L with
  | nil =>
    intro fr evs a x h
    rw [linesT] at h
    simp only [Prod.mk.injEq] at h
    exact ⟨[], by simp [h.1]⟩
  | cons s t ih =>
    intro fr evs a x h
    rw [linesT] at h
    by_cases h0 : (wsS s).length = 0
    · rw [if_pos h0] at h
      exact ih _ _ _ _ h
    · rw [if_neg h0] at h
      by_cases hb : (tev (wsS s) (shift fr (atsS s)) (fr + s.size) evs).2.2 ≠ 0
      · rw [if_pos hb] at h
        simp only [Prod.mk.injEq] at h
        exact absurd h.2.2 hb
      · rw [if_neg hb] at h
        obtain ⟨hs, e⟩ := ih _ _ _ _ h
        exact ⟨_ :: hs, by rw [e, List.append_assoc]; rfl⟩
/-- When a line's event is good. -/
def goodE (ws : List ByteArray) (ats : List Int) (en : Int) (evs : List S34) (e : S34) : Prop :=
  evs.length ≠ 60 ∧ 0 ≤ e.f0 ∧ e.f0 = kindW (rdOf ByteArray.empty ws 0) ∧ (tnum ws ats en 1 0 9999).2.2 = 0 ∧ e.f1 = (tnum ws ats en 1 0 9999).1 ∧ seventhB evs e.f1 = false ∧
    (if varB e.f0 then tnum ws ats en 2 0 7 else (0, 0, 0)).2.2 = 0 ∧ e.f2 = (if varB e.f0 then tnum ws ats en 2 0 7 else (0, 0, 0)).1 ∧
    (if valB e.f0 then tnum ws ats en (if varB e.f0 then 3 else 2) (-2147483648) 2147483647 else (0, 0, 0)).2.2 = 0 ∧ e.f3 = (if valB e.f0 then tnum ws ats en (if varB e.f0 then 3 else 2) (-2147483648) 2147483647 else (0, 0, 0)).1 ∧
    ¬ (1 + (if varB e.f0 then 1 else 0) + (if valB e.f0 then 1 else 0)) + 1 < (ws.length : Int)
theorem tev_of {ws : List ByteArray} {ats : List Int} {en : Int} {evs : List S34} {e : S34} (h : goodE ws ats en evs e) : tev ws ats en evs = (e, 0, 0) := by
  obtain ⟨h1, h2, h3, h4, h5, h6, h7, h8, h9, h10, h11⟩ := h
  unfold tev
  rw [if_neg h1, ← h3, if_neg (by omega)]
  dsimp only
  rw [if_neg (not_not_intro h4), ← h5, h6, if_neg Bool.false_ne_true, if_neg (not_not_intro h7), ← h8, if_neg (not_not_intro h9), ← h10, if_neg h11]
theorem tev_ex {ws : List ByteArray} {ats : List Int} {en : Int} {evs : List S34} (h : (tev ws ats en evs).2.2 = 0) : ∃ e, goodE ws ats en evs e := by
  unfold tev at h
  by_cases h60 : evs.length = 60
  · rw [if_pos h60] at h; exact absurd h (show ¬ (5 : Int) = 0 by decide)
  · rw [if_neg h60] at h
    obtain ⟨kd, hkd⟩ : ∃ kd, kd = kindW (rdOf ByteArray.empty ws 0) := ⟨_, rfl⟩
    rw [← hkd] at h
    by_cases hk0 : kd < 0
    · rw [if_pos hk0] at h; exact absurd h (show ¬ (2 : Int) = 0 by decide)
    · rw [if_neg hk0] at h
      dsimp only at h
      obtain ⟨t, ht⟩ : ∃ t, t = tnum ws ats en 1 0 9999 := ⟨_, rfl⟩
      obtain ⟨v, hv⟩ : ∃ v, v = if varB kd = true then tnum ws ats en 2 0 7 else (0, 0, 0) := ⟨_, rfl⟩
      obtain ⟨z, hz⟩ : ∃ z, z = if valB kd = true then tnum ws ats en (if varB kd = true then 3 else 2) (-2147483648) 2147483647 else (0, 0, 0) := ⟨_, rfl⟩
      rw [← ht, ← hv, ← hz] at h
      by_cases h1 : t.2.2 ≠ 0
      · rw [if_pos h1] at h; exact absurd h h1
      · rw [if_neg h1] at h
        by_cases h2 : seventhB evs t.1 = true
        · rw [if_pos h2] at h; exact absurd h (show ¬ (5 : Int) = 0 by decide)
        · rw [if_neg h2] at h
          by_cases h3 : v.2.2 ≠ 0
          · rw [if_pos h3] at h; exact absurd h h3
          · rw [if_neg h3] at h
            by_cases h4 : z.2.2 ≠ 0
            · rw [if_pos h4] at h; exact absurd h h4
            · rw [if_neg h4] at h
              by_cases h5 : (1 + (if varB kd = true then 1 else 0) + (if valB kd = true then 1 else 0)) + 1 < (ws.length : Int)
              · rw [if_pos h5] at h; exact absurd h (show ¬ (2 : Int) = 0 by decide)
              · have g1 : t.2.2 = 0 := by omega
                have g3 : v.2.2 = 0 := by omega
                have g4 : z.2.2 = 0 := by omega
                refine ⟨⟨kd, t.1, v.1, z.1⟩, h60, ?_, hkd, ?_, ?_, ?_, ?_, ?_, ?_, ?_, h5⟩
                · show 0 ≤ kd; omega
                · rw [← ht]; exact g1
                · show t.1 = _; rw [← ht]
                · show seventhB evs t.1 = false; simpa using h2
                · show (if varB kd = true then tnum ws ats en 2 0 7 else (0, 0, 0)).2.2 = 0; rw [← hv]; exact g3
                · show v.1 = (if varB kd = true then tnum ws ats en 2 0 7 else (0, 0, 0)).1; rw [← hv]
                · show (if valB kd = true then tnum ws ats en (if varB kd = true then 3 else 2) (-2147483648) 2147483647 else (0, 0, 0)).2.2 = 0; rw [← hz]; exact g4
                · show z.1 = (if valB kd = true then tnum ws ats en (if varB kd = true then 3 else 2) (-2147483648) 2147483647 else (0, 0, 0)).1; rw [← hz]
theorem tev_to {ws : List ByteArray} {ats : List Int} {en : Int} {evs : List S34} (h : (tev ws ats en evs).2.2 = 0) : goodE ws ats en evs (tev ws ats en evs).1 := by
  obtain ⟨e, he⟩ := tev_ex h
  rw [tev_of he]
  exact he
theorem goodE_evs {ws : List ByteArray} {ats : List Int} {en : Int} {evs evs' : List S34} {e : S34} (h : goodE ws ats en evs e) (h1 : evs'.length ≠ 60) (h2 : seventhB evs' e.f1 = false) : goodE ws ats en evs' e :=
  ⟨h1, h.2.1, h.2.2.1, h.2.2.2.1, h.2.2.2.2.1, h2, h.2.2.2.2.2.2⟩
/-- The same rows, behind other events, from another place on. -/
theorem lines_from (M : List ByteArray) : ∀ (fr : Int) (b0 b : List S34) (x : Int), linesT M fr b0 = (b, x, 0) → ∀ (fr2 : Int) (a : List S34), (a ++ b).length ≤ 60 → (namesF (a ++ b)).length ≤ 6 → linesT M fr2 (a ++ b0) = (a ++ b, 0, 0) := by
  induction M with
  | nil =>
    intro fr b0 b x h fr2 a _ _
    rw [linesT] at h ⊢
    simp only [Prod.mk.injEq] at h
    rw [h.1]
  | cons s t ih =>
    intro fr b0 b x h fr2 a hl hn
    rw [linesT] at h ⊢
    have hwl := wsS_len s
    by_cases h0 : (wsS s).length = 0
    · rw [if_pos h0] at h ⊢
      exact ih _ _ _ _ h _ _ hl hn
    · rw [if_neg h0] at h ⊢
      rw [tev_shift (wsS s) (atsS s) (s.size : Int) fr b0 hwl (by omega)] at h
      rw [tev_shift (wsS s) (atsS s) (s.size : Int) fr2 (a ++ b0) hwl (by omega)]
      dsimp only at h ⊢
      by_cases hb : (tev (wsS s) (atsS s) (s.size : Int) b0).2.2 = 0
      · rw [if_neg (not_not_intro hb)] at h
        have hg := tev_to hb
        obtain ⟨e, he⟩ : ∃ e, e = (tev (wsS s) (atsS s) (s.size : Int) b0).1 := ⟨_, rfl⟩
        rw [← he] at h hg
        obtain ⟨hs, hbs⟩ := lines_pre _ _ _ _ _ h
        have hnm : (namesF ((a ++ b0) ++ [e])).length ≤ 6 := by
          have := names_mono hs ((a ++ b0) ++ [e])
          rw [hbs] at hn
          rw [show a ++ ((b0 ++ [e]) ++ hs) = ((a ++ b0) ++ [e]) ++ hs by simp] at hn
          omega
        have hln : (a ++ b0).length ≠ 60 := by
          rw [hbs] at hl
          simp at hl ⊢
          omega
        rw [tev_of (goodE_evs hg hln (seventh_no hnm))]
        dsimp only
        rw [if_neg (by simp)]
        have := ih _ _ _ _ h (fr2 + ((s.size : Int) + 1)) a hl hn
        rw [← List.append_assoc] at this
        exact this
      · rw [if_pos hb] at h
        simp only [Prod.mk.injEq] at h
        exact absurd h.2.2 hb
end Go.Proofs.YthkpocgbinmeiaaDoor.U

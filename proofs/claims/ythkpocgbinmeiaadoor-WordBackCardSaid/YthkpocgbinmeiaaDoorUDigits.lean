/- A number's text is read as the number. -/
import Derived.Test.YthkpocgbinmeiaaDoorUInt
import Derived.Test.YthkpocgbinmeiaaDoorGItoa
import Derived.Lib.ItoaLen
import Derived.Lib.ItoaMem
import Derived.Lib.ItoaNum
namespace Go.Proofs.YthkpocgbinmeiaaDoor.U
set_option linter.unusedVariables false
set_option linter.unusedSimpArgs false
open Go Go.RowKit Go.Proofs.YthkpocgbinmeiaaDoor.P Go.Proofs.YthkpocgbinmeiaaDoorW.PrintWords Go.Proofs.YthkpocgbinmeiaaDoorW.PrintLast Go.Proofs.YthkpocgbinmeiaaDoorW.PrintMore

theorem dec_step (u : Nat) (h : ¬ u < 10) : Lib.decDigits u = Lib.decDigits (u / 10) ++ [UInt8.ofNat (48 + u % 10)] := by rw [Lib.decDigits, dif_neg h]
theorem dig_nat (d : Nat) (h : d < 10) : (UInt8.ofNat (48 + d)).toNat = 48 + d := by
  have : ∀ j : Fin 10, (UInt8.ofNat (48 + j.val)).toNat = 48 + j.val := by decide
  exact this ⟨d, h⟩
theorem dec_props (n : Nat) : ∀ u : Nat, u ≤ n → (Lib.decDigits u).all digB = true ∧ lv (Lib.decDigits u) = (u : Int) ∧ Lib.decDigits u ≠ [] ∧ (1 ≤ u → (Lib.decDigits u).head? ≠ some 48) := by
  induction n with
  | zero =>
    intro u hu
    have : u = 0 := by omega
    subst this
    rw [Lib.decDigits_one (by decide)]
    exact ⟨by decide, by decide, by simp, fun h => by omega⟩
  | succ n ih =>
    intro u hu
    by_cases h10 : u < 10
    · rw [Lib.decDigits_one h10]
      have ht := dig_nat u h10
      refine ⟨?_, ?_, by simp, fun h => ?_⟩
      · rw [List.all_cons, List.all_nil, Bool.and_true, digB_iff, ht]; omega
      · unfold lv lvF
        simp only [List.foldl_cons, List.foldl_nil, ht]
        omega
      · intro hc
        have : UInt8.ofNat (48 + u) = 48 := by simpa using hc
        rw [this] at ht
        have h48 : (48 : UInt8).toNat = 48 := rfl
        omega
    · obtain ⟨h1, h2, h3, h4⟩ := ih (u / 10) (by omega)
      have ht := dig_nat (u % 10) (by omega)
      rw [dec_step u h10]
      refine ⟨?_, ?_, by simp, fun h => ?_⟩
      · rw [List.all_append, h1, Bool.true_and, List.all_cons, List.all_nil, Bool.and_true, digB_iff, ht]; omega
      · rw [lv_snoc, h2, ht]; omega
      · have := h4 (by omega)
        cases hd : Lib.decDigits (u / 10) with
        | nil => exact absurd hd h3
        | cons c t =>
          rw [hd] at this
          simpa using this
theorem dec_digs (u : Nat) : digsL (Lib.decDigits u) = true := by
  obtain ⟨h1, h2, h3, h4⟩ := dec_props u u (Nat.le_refl _)
  unfold digsL
  rw [h1, Bool.true_and]
  by_cases h10 : u < 10
  · rw [Lib.decDigits_one h10]; rfl
  · have hl : 1 < (Lib.decDigits u).length := by
      rw [dec_step u h10, List.length_append]
      have := List.length_pos_iff.2 (dec_props (u / 10) (u / 10) (Nat.le_refl _)).2.2.1
      simp
      omega
    rw [decide_eq_true hl]
    have := h4 (by omega)
    simp [this]
theorem int_dec (u : Nat) (minus : Bool) (hm : (u : Int) ≤ mostV minus) (h1 : minus = true → 1 ≤ u) : intVal (Lib.decDigits u) minus = (if minus = true then -(u : Int) else (u : Int), 0) := by
  obtain ⟨_, h2, h3, h4⟩ := dec_props u u (Nat.le_refl _)
  rw [← ref_val]
  unfold refL
  have hd := dec_digs u
  rw [hd, above_lv _ _ hd, h2, decide_eq_false (by omega : ¬ mostV minus < (u : Int)), if_neg Bool.false_ne_true]
  have hz : (minus && decide (Lib.decDigits u = [48])) = false := by
    cases minus with
    | false => rfl
    | true =>
      rw [Bool.true_and, decide_eq_false]
      intro he
      have := h4 (h1 rfl)
      rw [he] at this
      exact this rfl
  rw [hz, if_neg (by simp)]
theorem dec_head (u : Nat) : (Lib.decDigits u).head? ≠ some 45 := by
  obtain ⟨h1, _, h3, _⟩ := dec_props u u (Nat.le_refl _)
  cases hd : Lib.decDigits u with
  | nil => exact absurd hd h3
  | cons c t =>
    rw [hd, List.all_cons, Bool.and_eq_true, digB_iff] at h1
    intro hc
    have : c = 45 := by simpa using hc
    subst this
    have h45 : (45 : UInt8).toNat = 45 := rfl
    omega
theorem int_itoa (n : Int) (h0 : -2147483648 ≤ n) (h1 : n ≤ 2147483647) : intVal (restOf ⟨(Lib.itoa n).toArray⟩).data.toList (minusOf ⟨(Lib.itoa n).toArray⟩) = (n, 0) := by
  by_cases hn : 0 ≤ n
  · obtain ⟨u, rfl⟩ := Int.eq_ofNat_of_zero_le hn
    rw [Lib.itoa_nonneg]
    have hm : minusOf ⟨(Lib.decDigits u).toArray⟩ = false := by
      unfold minusOf
      have := dec_head u
      simpa using this
    unfold restOf
    rw [hm, if_neg Bool.false_ne_true]
    have := int_dec u false (by show (u : Int) ≤ 2147483647; omega) (fun h => by cases h)
    simpa using this
  · obtain ⟨u, hu⟩ : ∃ u : Nat, n = -(u : Int) := ⟨(-n).toNat, by omega⟩
    subst hu
    have hu1 : 1 ≤ u := by omega
    rw [Lib.itoa_neg u hu1]
    have hm : minusOf ⟨((45 : UInt8) :: Lib.decDigits u).toArray⟩ = true := by unfold minusOf; simp
    unfold restOf
    rw [hm, if_pos rfl, Lib.extract_data]
    have hsz : (⟨((45 : UInt8) :: Lib.decDigits u).toArray⟩ : ByteArray).size = (Lib.decDigits u).length + 1 := by rw [Lib.size_eq]; simp
    rw [hsz]
    have := int_dec u true (by show (u : Int) ≤ 2147483648; omega) (fun _ => hu1)
    simpa using this
theorem itoa_chars (n : Int) : ∀ c ∈ Lib.itoa n, c = 45 ∨ digB c = true := by
  intro c hc
  by_cases hn : 0 ≤ n
  · obtain ⟨u, rfl⟩ := Int.eq_ofNat_of_zero_le hn
    rw [Lib.itoa_nonneg] at hc
    exact .inr (List.all_eq_true.1 (dec_props u u (Nat.le_refl _)).1 c hc)
  · obtain ⟨u, hu⟩ : ∃ u : Nat, n = -(u : Int) := ⟨(-n).toNat, by omega⟩
    subst hu
    rw [Lib.itoa_neg u (by omega)] at hc
    rcases List.mem_cons.1 hc with h | h
    · exact .inl h
    · exact .inr (List.all_eq_true.1 (dec_props u u (Nat.le_refl _)).1 c h)
theorem itoa_ne (n : Int) : Lib.itoa n ≠ [] := by
  by_cases hn : 0 ≤ n
  · obtain ⟨u, rfl⟩ := Int.eq_ofNat_of_zero_le hn
    rw [Lib.itoa_nonneg]
    exact (dec_props u u (Nat.le_refl _)).2.2.1
  · obtain ⟨u, hu⟩ : ∃ u : Nat, n = -(u : Int) := ⟨(-n).toNat, by omega⟩
    subst hu
    rw [Lib.itoa_neg u (by omega)]
    simp
end Go.Proofs.YthkpocgbinmeiaaDoor.U

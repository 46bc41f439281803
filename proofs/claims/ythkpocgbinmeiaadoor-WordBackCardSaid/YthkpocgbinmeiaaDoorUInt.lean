/- The number that a text is, and a number's text, plainly. -/
import Derived.Test.YthkpocgbinmeiaaDoorUNum
import Derived.Test.YthkpocgbinmeiaaDoorGInt
import Derived.Test.YthkpocgbinmeiaaDoorP0
import Derived.Lib.Strings
import Derived.Lib.ItoaNum
namespace Go.Proofs.YthkpocgbinmeiaaDoor.U
set_option linter.unusedVariables false
set_option linter.unusedSimpArgs false
open Go Go.RowKit Go.Proofs.YthkpocgbinmeiaaDoor.P Go.Proofs.YthkpocgbinmeiaaDoorW.PrintWords Go.Proofs.YthkpocgbinmeiaaDoorW.PrintLast Go.Proofs.YthkpocgbinmeiaaDoorW.PrintMore

def lvF (n : Int) (c : UInt8) : Int := 10 * n + ((c.toNat : Int) - 48)
/-- What digits tell. -/
def lv (l : List UInt8) : Int := l.foldl lvF 0
theorem lv_from (l : List UInt8) : ∀ a : Int, l.foldl lvF a = a * 10 ^ l.length + lv l := by
  unfold lv
  induction l with
  | nil => intro a; simp
  | cons c l ih =>
    intro a
    rw [List.foldl_cons, List.foldl_cons, ih (lvF a c), ih (lvF 0 c), List.length_cons]
    unfold lvF
    rw [show (10 : Int) ^ (l.length + 1) = 10 ^ l.length * 10 from Int.pow_succ 10 l.length]
    generalize (10 : Int) ^ l.length = P
    generalize List.foldl (fun n c => 10 * n + ((c.toNat : Int) - 48)) 0 l = Z
    rw [Int.add_mul, Int.add_mul, ← Int.add_assoc]
    congr 1
    rw [show (10 : Int) * 0 * P = 0 by simp, Int.zero_add, show a * (P * 10) = 10 * a * P by rw [Int.mul_comm P 10, ← Int.mul_assoc, Int.mul_comm a 10]]
theorem lv_cons (c : UInt8) (l : List UInt8) : lv (c :: l) = ((c.toNat : Int) - 48) * 10 ^ l.length + lv l := by
  have := lv_from l (lvF 0 c)
  show List.foldl lvF (lvF 0 c) l = _
  rw [this]; unfold lvF; simp
theorem lv_snoc (l : List UInt8) (c : UInt8) : lv (l ++ [c]) = 10 * lv l + ((c.toNat : Int) - 48) := by
  unfold lv; rw [List.foldl_append]; rfl
theorem pow_pos10 (n : Nat) : (0 : Int) < 10 ^ n := Int.pow_pos (by decide)
theorem digB_iff (c : UInt8) : digB c = true ↔ 48 ≤ c.toNat ∧ c.toNat ≤ 57 := by unfold digB; exact decide_eq_true_iff
theorem mul_le9 (a P : Int) (h0 : 0 ≤ a) (h9 : a ≤ 9) (hP : 0 < P) : 0 ≤ a * P ∧ a * P ≤ 9 * P :=
  ⟨Int.mul_nonneg h0 (by omega), Int.mul_le_mul_of_nonneg_right h9 (by omega)⟩
theorem lv_bd (l : List UInt8) (h : l.all digB = true) : 0 ≤ lv l ∧ lv l < 10 ^ l.length := by
  induction l with
  | nil => exact ⟨by decide, by decide⟩
  | cons c l ih =>
    rw [List.all_cons, Bool.and_eq_true, digB_iff] at h
    obtain ⟨h0, h1⟩ := ih h.2
    rw [lv_cons, List.length_cons, show (10 : Int) ^ (l.length + 1) = 10 ^ l.length * 10 from Int.pow_succ 10 l.length]
    have hP := pow_pos10 l.length
    have hm := mul_le9 ((c.toNat : Int) - 48) (10 ^ l.length) (by omega) (by omega) hP
    generalize ((c.toNat : Int) - 48) * 10 ^ l.length = M at hm ⊢
    generalize (10 : Int) ^ l.length = P at h1 hP hm ⊢
    omega
theorem fold_gen (l : List UInt8) (hl : l.all digB = true) : ∀ (p : Int × Bool) (n : Int), 0 ≤ n → (p = (n, false) ∨ (p.2 = true ∧ 2147483647 < p.1 ∧ 21474836480 ≤ n)) →
    (l.foldl intStep p = (l.foldl lvF n, false) ∨ ((l.foldl intStep p).2 = true ∧ 2147483647 < (l.foldl intStep p).1 ∧ 21474836480 ≤ l.foldl lvF n)) := by
  induction l with
  | nil => intro p n _ h; exact h
  | cons c l ih =>
    intro p n hn h
    rw [List.all_cons, Bool.and_eq_true, digB_iff] at hl
    rw [List.foldl_cons, List.foldl_cons]
    refine ih hl.2 _ _ (by unfold lvF; omega) ?_
    rcases h with rfl | ⟨h1, h2, h3⟩
    · unfold intStep lvF
      dsimp only
      by_cases hg : n > 2147483647
      · rw [if_pos hg]; exact .inr ⟨rfl, hg, by omega⟩
      · rw [if_neg hg]; exact .inl rfl
    · unfold intStep lvF
      rw [if_pos h2]
      exact .inr ⟨rfl, h2, by omega⟩
theorem fold_lv (l : List UInt8) (hl : l.all digB = true) : intFold l = (lv l, false) ∨ ((intFold l).2 = true ∧ 21474836480 ≤ lv l) := by
  rcases fold_gen l hl (0, false) 0 (by decide) (.inl rfl) with h | ⟨h1, _, h3⟩
  · exact .inl h
  · exact .inr ⟨h1, h3⟩
theorem less_lv : ∀ a b : List UInt8, a.length = b.length → a.all digB = true → b.all digB = true → Op.bytesLess a b = decide (lv a < lv b) := by
  intro a
  induction a with
  | nil =>
    intro b hb _ _
    cases b with
    | nil => rfl
    | cons d b => simp at hb
  | cons c a ih =>
    intro b hb ha hbd
    cases b with
    | nil => simp at hb
    | cons d b =>
      rw [List.all_cons, Bool.and_eq_true, digB_iff] at ha hbd
      have hlen : a.length = b.length := by simpa using hb
      have e := ih b hlen ha.2 hbd.2
      obtain ⟨a0, a1⟩ := lv_bd a ha.2
      obtain ⟨b0, b1⟩ := lv_bd b hbd.2
      unfold Op.bytesLess
      rw [e, lv_cons, lv_cons, ← hlen]
      rw [← hlen] at b1
      have hP := pow_pos10 a.length
      generalize (10 : Int) ^ a.length = P at a1 b1 hP ⊢
      by_cases h1 : c.toNat < d.toNat
      · have hc : c < d := UInt8.lt_iff_toNat_lt.2 h1
        have ht : ((d.toNat : Int) - 48) * P = ((c.toNat : Int) - 48) * P + P + ((d.toNat : Int) - c.toNat - 1) * P := by
          rw [show ((d.toNat : Int) - 48) = ((c.toNat : Int) - 48) + 1 + ((d.toNat : Int) - c.toNat - 1) by omega, Int.add_mul, Int.add_mul, Int.one_mul]
        have hnn : 0 ≤ ((d.toNat : Int) - c.toNat - 1) * P := Int.mul_nonneg (by omega) (by omega)
        rw [decide_eq_true hc, Bool.true_or, ht]
        symm; rw [decide_eq_true_iff]; omega
      · by_cases h2 : c.toNat = d.toNat
        · have hcd : c = d := UInt8.toNat_inj.1 h2
          subst hcd
          rw [decide_eq_false (by rw [UInt8.lt_iff_toNat_lt]; omega), Bool.false_or, beq_self_eq_true, Bool.true_and]
          congr 1
          exact propext ⟨fun h => by omega, fun h => by omega⟩
        · have ht : ((c.toNat : Int) - 48) * P = ((d.toNat : Int) - 48) * P + P + ((c.toNat : Int) - d.toNat - 1) * P := by
            rw [show ((c.toNat : Int) - 48) = ((d.toNat : Int) - 48) + 1 + ((c.toNat : Int) - d.toNat - 1) by omega, Int.add_mul, Int.add_mul, Int.one_mul]
          have hnn : 0 ≤ ((c.toNat : Int) - d.toNat - 1) * P := Int.mul_nonneg (by omega) (by omega)
          have hne : (c == d) = false := by rw [beq_eq_false_iff_ne]; intro he; exact h2 (by rw [he])
          rw [decide_eq_false (by rw [UInt8.lt_iff_toNat_lt]; omega), hne, Bool.false_or, Bool.false_and, ht]
          symm; rw [decide_eq_false_iff_not]; omega
/-- Ten bytes that tell the greatest number, or one more. -/
def mostL (minus : Bool) : List UInt8 := if minus then [50, 49, 52, 55, 52, 56, 51, 54, 52, 56] else [50, 49, 52, 55, 52, 56, 51, 54, 52, 55]
def mostV (minus : Bool) : Int := if minus then 2147483648 else 2147483647
def aboveL (l m : List UInt8) : Bool := if l.length = m.length then Op.bytesLess m l else decide (m.length < l.length)
theorem pow_mono10 {a b : Nat} (h : a ≤ b) : (10 : Int) ^ a ≤ 10 ^ b := by
  obtain ⟨d, rfl⟩ := Nat.exists_eq_add_of_le h
  rw [Int.pow_add]
  have h1 := pow_pos10 a
  have h2 := pow_pos10 d
  have := Int.mul_le_mul_of_nonneg_left (show (1 : Int) ≤ 10 ^ d by omega) (show (0 : Int) ≤ 10 ^ a by omega)
  rw [Int.mul_one] at this
  exact this
theorem lv_big (c : UInt8) (l : List UInt8) (h : (c :: l).all digB = true) (hc : c ≠ 48) : (10 : Int) ^ l.length ≤ lv (c :: l) := by
  rw [List.all_cons, Bool.and_eq_true, digB_iff] at h
  have hc' : c.toNat ≠ 48 := fun he => hc (UInt8.toNat_inj.1 he)
  rw [lv_cons]
  obtain ⟨h0, _⟩ := lv_bd l h.2
  have hP := pow_pos10 l.length
  have ht : ((c.toNat : Int) - 48) * 10 ^ l.length = 10 ^ l.length + ((c.toNat : Int) - 49) * 10 ^ l.length := by
    rw [show ((c.toNat : Int) - 48) = 1 + ((c.toNat : Int) - 49) by omega, Int.add_mul, Int.one_mul]
  have hnn : 0 ≤ ((c.toNat : Int) - 49) * (10 : Int) ^ l.length := Int.mul_nonneg (by omega) (by omega)
  rw [ht]
  generalize ((c.toNat : Int) - 49) * (10 : Int) ^ l.length = M at hnn ⊢
  generalize (10 : Int) ^ l.length = P at hP ⊢
  omega
def digsL (l : List UInt8) : Bool := l.all digB && (decide (l.length = 1) || (decide (1 < l.length) && (l.head? != some 48)))
theorem above_lv (l : List UInt8) (minus : Bool) (h : digsL l = true) : aboveL l (mostL minus) = decide (mostV minus < lv l) := by
  unfold digsL at h
  rw [Bool.and_eq_true] at h
  obtain ⟨ha, hh⟩ := h
  have hm : (mostL minus).length = 10 := by cases minus <;> rfl
  have hmd : (mostL minus).all digB = true := by cases minus <;> decide
  have hmv : lv (mostL minus) = mostV minus := by cases minus <;> decide
  have hmb : 2147483647 ≤ mostV minus ∧ mostV minus ≤ 2147483648 := by cases minus <;> decide
  unfold aboveL
  rw [hm]
  by_cases h10 : l.length = 10
  · rw [if_pos h10, less_lv _ _ (by rw [hm, h10]) hmd ha, hmv]
  · rw [if_neg h10]
    obtain ⟨_, hb⟩ := lv_bd l ha
    by_cases hlt : l.length < 10
    · have h9 : (10 : Int) ^ l.length ≤ 10 ^ 9 := pow_mono10 (by omega)
      rw [decide_eq_false (by omega), decide_eq_false]
      have : (10 : Int) ^ 9 = 1000000000 := by decide
      omega
    · rw [decide_eq_true (by omega : 10 < l.length)]
      symm; rw [decide_eq_true_iff]
      cases l with
      | nil => simp at hlt
      | cons c l =>
        have hc : c ≠ 48 := by
          intro he
          subst he
          simp at hh
          rw [hh] at hlt
          simp at hlt
        have h1 := lv_big c l ha hc
        have h2 : (10 : Int) ^ 10 ≤ 10 ^ l.length := pow_mono10 (by simp at hlt h10; omega)
        have : (10 : Int) ^ 10 = 10000000000 := by decide
        omega
/-- The reference's number, plainly. -/
def refL (l : List UInt8) (minus : Bool) : Int × Int :=
  if (!digsL l || (minus && decide (l = [48]))) = true then (0, 2) else if aboveL l (mostL minus) = true then (0, 3) else (if minus = true then -lv l else lv l, 0)
theorem ref_val (l : List UInt8) (minus : Bool) : refL l minus = intVal l minus := by
  unfold refL intVal
  by_cases hall : l.all digB = true
  · by_cases hbad : l = [] ∨ (l.head? = some 48 ∧ (minus = true ∨ 1 < l.length))
    · rw [if_pos hbad, if_pos]
      rcases hbad with rfl | ⟨h48, hm⟩
      · simp [digsL]
      · rw [Bool.or_eq_true]
        by_cases h1 : 1 < l.length
        · left
          unfold digsL
          rw [hall, h48, decide_eq_false (by omega : ¬ l.length = 1)]
          simp
        · right
          have hmin : minus = true := hm.resolve_right h1
          cases l with
          | nil => simp at h48
          | cons c t =>
            have : t = [] := by cases t with | nil => rfl | cons x y => simp at h1
            subst this
            simp at h48
            rw [hmin, h48]; simp
    · rw [if_neg hbad]
      have hd : digsL l = true := by
        unfold digsL
        rw [hall, Bool.true_and]
        have hne : l ≠ [] := fun h => hbad (.inl h)
        have hpos : 0 < l.length := List.length_pos_iff.2 hne
        by_cases h1 : l.length = 1
        · rw [decide_eq_true h1]; rfl
        · have : ¬ l.head? = some 48 := fun h => hbad (.inr ⟨h, .inr (by omega)⟩)
          rw [decide_eq_true (by omega : 1 < l.length)]
          simp [this]
      have hm : (minus && decide (l = [48])) = false := by
        rw [Bool.and_eq_false_iff]
        by_cases hmin : minus = true
        · right
          rw [decide_eq_false]
          rintro rfl
          exact hbad (.inr ⟨rfl, .inl hmin⟩)
        · left; simpa using hmin
      rw [if_neg (by rw [hd, hm]; simp), if_pos hall, above_lv l minus hd]
      obtain ⟨h0, _⟩ := lv_bd l hall
      rcases fold_lv l hall with hf | ⟨hf1, hf2⟩
      · rw [hf]
        dsimp only
        cases minus with
        | true =>
          simp only [if_true, mostV]
          by_cases hg : (2147483648 : Int) < lv l
          · rw [if_pos (decide_eq_true hg), if_pos (.inr (.inl (by omega)))]
          · rw [if_neg (by simpa using hg), if_neg (fun hh => hh.elim (fun h => absurd h (by decide)) (fun hh => hh.elim (fun h => by omega) (fun h => by omega)))]
        | false =>
          simp only [Bool.false_eq_true, if_false, mostV]
          by_cases hg : (2147483647 : Int) < lv l
          · rw [if_pos (decide_eq_true hg), if_pos (.inr (.inr (by omega)))]
          · rw [if_neg (by simpa using hg), if_neg (fun hh => hh.elim (fun h => absurd h (by decide)) (fun hh => hh.elim (fun h => by omega) (fun h => by omega)))]
      · have hmb : mostV minus ≤ 2147483648 := by cases minus <;> decide
        rw [if_pos (decide_eq_true (by omega)), if_pos (.inl hf1)]
  · rw [if_pos (by unfold digsL; simp only [Bool.not_eq_true] at hall; rw [hall]; rfl)]
    by_cases hbad : l = [] ∨ (l.head? = some 48 ∧ (minus = true ∨ 1 < l.length))
    · rw [if_pos hbad]
    · rw [if_neg hbad, if_neg hall]
end Go.Proofs.YthkpocgbinmeiaaDoor.U

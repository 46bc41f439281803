/- The reference's numbers are those of UInt. -/
import Derived.Test.YthkpocgbinmeiaaDoorUInt
import Derived.Test.YthkpocgbinmeiaaDoorP6
import Derived.Lib.ItoaLen
namespace Go.Proofs.YthkpocgbinmeiaaDoor.U
set_option linter.unusedVariables false
set_option linter.unusedSimpArgs false
open Go Go.RowKit Go.Proofs.YthkpocgbinmeiaaDoor.P Go.Proofs.YthkpocgbinmeiaaDoorW.PrintWords Go.Proofs.YthkpocgbinmeiaaDoorW.PrintLast Go.Proofs.YthkpocgbinmeiaaDoorW.PrintMore

theorem bt_cons (s : ByteArray) (i : Nat) (c : UInt8) (t : List UInt8) (h : s.data.toList.drop i = c :: t) : i < s.size ∧ bt s (i : Int) = (c.toNat : Int) := by
  have hlt : i < s.data.toList.length := by
    rcases Nat.lt_or_ge i s.data.toList.length with h1 | h1
    · exact h1
    · rw [List.drop_of_length_le h1] at h; simp at h
  have hs : i < s.size := by rw [Lib.size_eq]; exact hlt
  refine ⟨hs, ?_⟩
  rw [List.drop_eq_getElem_cons hlt] at h
  injection h with h1 h2
  unfold bt
  rw [dif_pos (by omega)]
  have e : s[((i : Int)).toNat]'(by omega) = s.data.toList[i] := by
    rw [Array.getElem_toList]; rfl
  rw [e, h1]
theorem drop_at (l : List UInt8) (i : Nat) (h : i < l.length) : ∃ c t, l.drop i = c :: t ∧ l.take (i + 1) = l.take i ++ [c] := by
  refine ⟨l[i], l.drop (i + 1), List.drop_eq_getElem_cons h, ?_⟩
  rw [List.take_succ_eq_append_getElem h]
theorem digs_ev (s : ByteArray) (hs : s.size ≤ 1000000) (d : Nat) : ∀ i : Nat, i + d = s.size → (s.data.toList.take i).all digB = true → Ev (fun k => recantref01_digits.l0 k s (i : Int)) (digsL s.data.toList) := by
  have hsz := Lib.size_eq s
  induction d with
  | zero =>
    intro i hi ha
    refine ⟨1, fun k hk => ?_⟩
    obtain ⟨k, rfl⟩ : ∃ m, k = m + 1 := ⟨k - 1, by omega⟩
    simp only [recantref01_digits.l0]
    rw [List.take_of_length_le (by omega)] at ha
    rw [if_neg (by omega)]
    unfold digsL
    rw [ha, Bool.true_and]
    by_cases h1 : s.data.toList.length = 1
    · rw [if_pos (by omega), decide_eq_true h1]; rfl
    · rw [if_neg (by omega), decide_eq_false h1, Bool.false_or]
      by_cases h2 : 1 < s.data.toList.length
      · obtain ⟨c, t, hc, _⟩ := drop_at s.data.toList 0 (by omega)
        obtain ⟨_, hb⟩ := bt_cons s 0 c t hc
        rw [if_pos (by omega), if_pos (by omega), decide_eq_true h2, Bool.true_and]
        rw [show ((0 : Nat) : Int) = 0 from rfl] at hb
        rw [hb]
        rw [List.drop_zero] at hc
        rw [hc, List.head?_cons]
        congr 1
        by_cases h48 : c = 48
        · subst h48; rfl
        · have : c.toNat ≠ 48 := fun h => h48 (UInt8.toNat_inj.1 h)
          have e1 : ((c.toNat : Int) != 48) = true := by rw [bne_iff_ne]; omega
          have e2 : (some c != some 48) = true := by rw [bne_iff_ne]; intro h; exact h48 (Option.some.inj h)
          rw [e1, e2]
      · rw [if_neg (by omega), decide_eq_false h2]; rfl
  | succ d ih =>
    intro i hi ha
    obtain ⟨c, t, hc, ht⟩ := drop_at s.data.toList i (by omega)
    obtain ⟨_, hb⟩ := bt_cons s i c t hc
    by_cases hd : digB c = true
    · obtain ⟨K, e⟩ := ih (i + 1) (by omega) (by rw [ht, List.all_append, ha]; simp [hd])
      rw [digB_iff] at hd
      refine ⟨K + 1, fun k hk => ?_⟩
      obtain ⟨k, rfl⟩ : ∃ m, k = m + 1 := ⟨k - 1, by omega⟩
      have e := e k (by omega)
      dsimp only at e
      simp only [recantref01_digits.l0]
      rw [if_pos (by omega), if_pos (by omega), hb, if_neg (by omega), if_neg (by omega), w64 (by omega) (by omega), show ((i : Int) + 1) = ((i + 1 : Nat) : Int) by omega]
      exact e
    · have hno : digsL s.data.toList = false := by
        unfold digsL
        have : s.data.toList.all digB = false := by
          rw [Bool.eq_false_iff]
          intro h
          have hm : c ∈ s.data.toList := List.mem_of_mem_drop (by rw [hc]; exact List.mem_cons_self)
          exact hd (List.all_eq_true.1 h c hm)
        rw [this, Bool.false_and]
      rw [hno]
      refine ⟨1, fun k hk => ?_⟩
      obtain ⟨k, rfl⟩ : ∃ m, k = m + 1 := ⟨k - 1, by omega⟩
      simp only [recantref01_digits.l0]
      rw [if_pos (by omega), if_pos (by omega), hb]
      have hd' : ¬ (48 ≤ c.toNat ∧ c.toNat ≤ 57) := fun h => hd ((digB_iff c).2 h)
      by_cases h1 : (c.toNat : Int) < 48
      · rw [if_pos h1]
      · rw [if_neg h1, if_pos (by omega)]
theorem lv_take (l : List UInt8) (h : l.all digB = true) (i : Nat) : lv (l.take i) ≤ lv l ∧ 0 ≤ lv (l.take i) := by
  have ha : (l.take i).all digB = true := List.all_eq_true.2 fun x hx => List.all_eq_true.1 h x (List.mem_of_mem_take hx)
  have hd : (l.drop i).all digB = true := List.all_eq_true.2 fun x hx => List.all_eq_true.1 h x (List.mem_of_mem_drop hx)
  obtain ⟨t0, _⟩ := lv_bd _ ha
  obtain ⟨d0, _⟩ := lv_bd _ hd
  refine ⟨?_, t0⟩
  have e : lv l = lv (l.take i) * 10 ^ (l.drop i).length + lv (l.drop i) := by
    conv => lhs; rw [← List.take_append_drop i l]
    unfold lv
    rw [List.foldl_append]
    exact lv_from _ _
  have hP := pow_pos10 (l.drop i).length
  have := Int.mul_le_mul_of_nonneg_left (show (1 : Int) ≤ 10 ^ (l.drop i).length by omega) t0
  rw [Int.mul_one] at this
  omega
theorem val_ev (s : ByteArray) (minus : Bool) (hs : s.size ≤ 1000000) (ha : s.data.toList.all digB = true) (hv : lv s.data.toList ≤ 2147483648) (d : Nat) : ∀ i : Nat, i + d = s.size → Ev (fun k => recantref01_Int.l0 k minus s (lv (s.data.toList.take i)) (i : Int)) (if minus = true then -lv s.data.toList else lv s.data.toList, 0) := by
  have hsz := Lib.size_eq s
  induction d with
  | zero =>
    intro i hi
    refine ⟨1, fun k hk => ?_⟩
    obtain ⟨k, rfl⟩ : ∃ m, k = m + 1 := ⟨k - 1, by omega⟩
    obtain ⟨h0, _⟩ := lv_bd _ ha
    simp only [recantref01_Int.l0]
    rw [if_neg (by omega), List.take_of_length_le (by omega)]
    cases minus with
    | true => rw [if_pos rfl, if_pos rfl, w64 (by omega) (by omega)]
    | false => rw [if_neg (by simp), if_neg (by simp)]
  | succ d ih =>
    intro i hi
    obtain ⟨c, t, hc, ht⟩ := drop_at s.data.toList i (by omega)
    obtain ⟨_, hb⟩ := bt_cons s i c t hc
    have hdc := List.all_eq_true.1 ha c (List.mem_of_mem_drop (by rw [hc]; exact List.mem_cons_self))
    rw [digB_iff] at hdc
    obtain ⟨K, e⟩ := ih (i + 1) (by omega)
    obtain ⟨a1, a0⟩ := lv_take _ ha i
    have b1 := lv_take _ ha (i + 1)
    rw [ht, lv_snoc] at e b1
    refine ⟨K + 1, fun k hk => ?_⟩
    obtain ⟨k, rfl⟩ : ∃ m, k = m + 1 := ⟨k - 1, by omega⟩
    have e := e k (by omega)
    dsimp only at e
    simp only [recantref01_Int.l0]
    rw [if_pos (by omega), if_pos (by omega), hb, show ((c.toNat : Int) - 48) % 256 = (c.toNat : Int) - 48 by omega, w64 (x := 10 * _) (by omega) (by omega), w64 (x := 10 * _ + _) (by omega) (by omega), w64 (x := (i : Int) + 1) (by omega) (by omega), show ((i : Int) + 1) = ((i + 1 : Nat) : Int) by omega]
    exact e
theorem above_ev (a b : ByteArray) : recantref01_above.f a b = some (aboveL a.data.toList b.data.toList) := by
  unfold recantref01_above.f aboveL
  rw [Lib.toList_data, Lib.toList_data]
  have h1 := Lib.size_eq a
  have h2 := Lib.size_eq b
  by_cases h : a.data.toList.length = b.data.toList.length
  · rw [if_pos (by omega), if_pos h]
  · rw [if_neg (by omega), if_neg h]
    congr 1
    exact decide_eq_decide.2 ⟨fun h => by omega, fun h => by omega⟩
theorem size_rest (s : ByteArray) : (restOf s).size ≤ s.size := by
  unfold restOf
  split
  · rw [ByteArray.size_extract]; omega
  · exact Nat.le_refl _
theorem rint_ev (s : ByteArray) (hs : s.size ≤ 1000000) : Ev (fun k => recantref01_Int.f k s) (intVal (restOf s).data.toList (minusOf s)) := by
  rw [← ref_val]
  have hsz := Lib.size_eq s
  have hrs := size_rest s
  obtain ⟨M, hM⟩ : ∃ M, M = minusOf s := ⟨_, rfl⟩
  obtain ⟨R, hR⟩ : ∃ R, R = restOf s := ⟨_, rfl⟩
  rw [← hM, ← hR]
  rw [← hR] at hrs
  obtain ⟨K1, e1⟩ := digs_ev R (by omega) R.size 0 (by omega) (by simp)
  have e2 := above_ev R ⟨(mostL M).toArray⟩
  have hmd : (⟨(mostL M).toArray⟩ : ByteArray).data.toList = mostL M := by simp
  rw [hmd] at e2
  -- the first step
  have h0 : ∀ k, recantref01_Int.f k s = recantref01_Int.j0 k s M := by
    intro k
    unfold recantref01_Int.f
    by_cases hpos : 0 < s.size
    · obtain ⟨c, t, hc, _⟩ := drop_at s.data.toList 0 (by omega)
      obtain ⟨_, hb⟩ := bt_cons s 0 c t hc
      rw [show ((0 : Nat) : Int) = 0 from rfl] at hb
      rw [List.drop_zero] at hc
      rw [if_pos (by omega), if_pos (by omega), hb, hM]
      congr 1
      unfold minusOf
      rw [hc, List.head?_cons]
      by_cases h45 : c = 45
      · subst h45; rfl
      · have : c.toNat ≠ 45 := fun h => h45 (UInt8.toNat_inj.1 h)
        have e1 : ((c.toNat : Int) == 45) = false := by rw [beq_eq_false_iff_ne]; omega
        have e2 : (some c == some 45) = false := by rw [beq_eq_false_iff_ne]; intro h; exact h45 (Option.some.inj h)
        rw [e1, e2]
    · rw [if_neg (by omega), hM]
      congr 1
      unfold minusOf
      have : s.data.toList = [] := List.eq_nil_of_length_eq_zero (by omega)
      rw [this]; rfl
  have h1 : ∀ k, recantref01_Int.j0 (k + 1) s M = recantref01_Int.j1 k M R ⟨(mostL M).toArray⟩ := by
    intro k
    simp only [recantref01_Int.j0]
    cases hm : M with
    | true =>
      have hpos : 1 ≤ s.size := by
        rcases Nat.lt_or_ge 0 s.size with h | h
        · exact h
        · exfalso
          have : s.data.toList = [] := List.eq_nil_of_length_eq_zero (by omega)
          rw [hm] at hM
          unfold minusOf at hM
          rw [this] at hM
          exact absurd hM (by decide)
      rw [if_pos rfl, if_pos (by omega)]
      have : R = s.extract 1 s.size := by rw [hR]; unfold restOf; rw [← hM, hm]; rfl
      rw [this]; rfl
    | false =>
      rw [if_neg (by simp)]
      have : R = s := by rw [hR]; unfold restOf; rw [← hM, hm]; rfl
      rw [this]; rfl
  have h2 : ∀ k, K1 ≤ k → recantref01_Int.j1 (k + 1) M R ⟨(mostL M).toArray⟩ = recantref01_Int.j2 k M R ⟨(mostL M).toArray⟩ (!digsL R.data.toList || (M && decide (R.data.toList = [48]))) := by
    intro k hk
    have := e1 k hk
    dsimp only at this
    rw [show ((0 : Nat) : Int) = 0 from rfl] at this
    simp only [recantref01_Int.j1]
    unfold recantref01_digits.f
    rw [this, Option.bind_some, Lib.toList_data]
    have hb : (R.data.toList == [48]) = decide (R.data.toList = [48]) := by
      by_cases h : R.data.toList = [48]
      · rw [h]; rfl
      · rw [decide_eq_false h, beq_eq_false_iff_ne]; exact h
    rw [hb]
    cases digsL R.data.toList <;> cases M <;> rfl
  unfold refL
  by_cases hx : (!digsL R.data.toList || (M && decide (R.data.toList = [48]))) = true
  · rw [if_pos hx]
    refine ⟨K1 + 3, fun k hk => ?_⟩
    obtain ⟨k, rfl⟩ : ∃ m, k = m + 3 := ⟨k - 3, by omega⟩
    dsimp only
    rw [h0, show k + 3 = (k + 2) + 1 from rfl, h1, show k + 2 = (k + 1) + 1 from rfl, h2 _ (by omega), hx]
    simp only [recantref01_Int.j2]
    rfl
  · rw [if_neg hx]
    have hxf := Bool.eq_false_iff.2 hx
    have hdg : digsL R.data.toList = true := by
      cases h : digsL R.data.toList with
      | true => rfl
      | false => rw [h] at hxf; simp at hxf
    by_cases hab : aboveL R.data.toList (mostL M) = true
    · rw [if_pos hab]
      refine ⟨K1 + 3, fun k hk => ?_⟩
      obtain ⟨k, rfl⟩ : ∃ m, k = m + 3 := ⟨k - 3, by omega⟩
      dsimp only
      rw [h0, show k + 3 = (k + 2) + 1 from rfl, h1, show k + 2 = (k + 1) + 1 from rfl, h2 _ (by omega), hxf]
      simp only [recantref01_Int.j2]
      rw [if_neg (by simp), e2, Option.bind_some, if_pos hab]
    · rw [if_neg hab]
      have hal := above_lv _ M hdg
      have hle : lv R.data.toList ≤ 2147483648 := by
        rw [hal] at hab
        have : ¬ mostV M < lv R.data.toList := fun h => hab (decide_eq_true h)
        have hm : mostV M ≤ 2147483648 := by cases M <;> decide
        omega
      have hall : R.data.toList.all digB = true := by
        unfold digsL at hdg; rw [Bool.and_eq_true] at hdg; exact hdg.1
      obtain ⟨K2, e3⟩ := val_ev R M (by omega) hall hle R.size 0 (by omega)
      refine ⟨K1 + K2 + 3, fun k hk => ?_⟩
      obtain ⟨k, rfl⟩ : ∃ m, k = m + 3 := ⟨k - 3, by omega⟩
      have e3 := e3 k (by omega)
      dsimp only at e3 ⊢
      rw [h0, show k + 3 = (k + 2) + 1 from rfl, h1, show k + 2 = (k + 1) + 1 from rfl, h2 _ (by omega), hxf]
      simp only [recantref01_Int.j2]
      rw [if_neg (by simp), e2, Option.bind_some, if_neg hab]
      exact e3
end Go.Proofs.YthkpocgbinmeiaaDoor.U

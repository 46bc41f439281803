/- A text's rows and events, plainly. -/
import Derived.Test.YthkpocgbinmeiaaDoorGTParse
namespace Go.Proofs.YthkpocgbinmeiaaDoor.U
set_option linter.unusedVariables false
set_option linter.unusedSimpArgs false
open Go Go.RowKit Go.Proofs.YthkpocgbinmeiaaDoor.P Go.Proofs.YthkpocgbinmeiaaDoorW.PrintWords Go.Proofs.YthkpocgbinmeiaaDoorW.PrintLast Go.Proofs.YthkpocgbinmeiaaDoorW.PrintMore

theorem ib_none : ∀ l : List UInt8, (∀ c ∈ l, c ≠ 10) → Lib.indexByte l 10 = -1
  | [], _ => rfl
  | b :: l, h => by
    rw [ib_cons, ib_none l (fun c hc => h c (List.mem_cons_of_mem _ hc))]
    have := h b (List.mem_cons_self ..)
    rw [if_neg (by simpa using this)]
    rfl
theorem ib_app (q : List UInt8) : ∀ p : List UInt8, (∀ c ∈ p, c ≠ 10) → Lib.indexByte (p ++ 10 :: q) 10 = p.length
  | [], _ => by rw [List.nil_append, ib_cons]; rfl
  | b :: p, h => by
    rw [List.cons_append, ib_cons, ib_app q p (fun c hc => h c (List.mem_cons_of_mem _ hc))]
    have := h b (List.mem_cons_self ..)
    rw [if_neg (by simpa using this), if_neg (by simp)]
    simp
theorem ext_list {a b : ByteArray} (h : a.data.toList = b.data.toList) : a = b := by
  cases a; cases b
  simp only [ByteArray.mk.injEq]
  exact Array.toList_inj.1 h
theorem rows_one (s : ByteArray) (h : ∀ c ∈ s.data.toList, c ≠ 10) : rowsS s = [s] := by
  rw [rowsS, dif_neg (by rw [ib_none _ h]; decide)]
theorem rows_two (s : ByteArray) (p q : List UInt8) (h : s.data.toList = p ++ 10 :: q) (hp : ∀ c ∈ p, c ≠ 10) : rowsS s = ⟨p.toArray⟩ :: rowsS ⟨q.toArray⟩ := by
  have hi : Lib.indexByte s.data.toList 10 = p.length := by rw [h, ib_app q p hp]
  have hz : s.size = p.length + (q.length + 1) := by rw [Lib.size_eq, h]; simp
  rw [rowsS, dif_pos (by rw [hi]; omega), hi, Int.toNat_natCast]
  congr 1
  · apply ext_list
    rw [Lib.extract_data, h]
    simp
  · congr 1
    apply ext_list
    rw [Lib.extract_data, h, hz]
    simp
    rw [show p.length + (q.length + 1) - (p.length + 1) = q.length by omega, List.take_length]
theorem words_same (x : ByteArray) : (wordsOf x).map (fun p => x.extract p.1 p.2) = wsS x := by
  unfold wsS
  apply List.map_congr_left
  intro p hp
  have := word_same x p hp
  rw [Lib.toList_data, Lib.toList_data] at this
  exact (ext_list this).symm
theorem rd_shift {d : Int} {l : List Int} {i : Int} (h0 : 0 ≤ i) (h : i < l.length) : rd (shift d l) i = rd l i + d := by
  obtain ⟨j, rfl⟩ := Int.eq_ofNat_of_zero_le h0
  unfold rd shift
  rw [Int.toNat_natCast, List.getD_eq_getElem?_getD, List.getD_eq_getElem?_getD, List.getElem?_map, List.getElem?_eq_getElem (by omega)]
  rfl
theorem tnum_shift (ws : List ByteArray) (ats : List Int) (en d i lo hi : Int) (hl : ws.length = ats.length) (h0 : 0 ≤ i) :
    tnum ws (shift d ats) (d + en) i lo hi = ((tnum ws ats en i lo hi).1, d + (tnum ws ats en i lo hi).2.1, (tnum ws ats en i lo hi).2.2) := by
  unfold tnum
  by_cases h : i ≥ (ws.length : Int)
  · rw [if_pos h, if_pos h]
  · rw [if_neg h, if_neg h, rd_shift h0 (by omega)]
    split
    · simp [Int.add_comm]
    · simp [Int.add_comm]
/-- Where an event is wrong, moved on. -/
theorem tev_shift (ws : List ByteArray) (ats : List Int) (en d : Int) (evs : List S34) (hl : ws.length = ats.length) (h0 : 0 < ws.length) :
    tev ws (shift d ats) (d + en) evs = ((tev ws ats en evs).1, (if (tev ws ats en evs).2.2 = 0 then 0 else d + (tev ws ats en evs).2.1), (tev ws ats en evs).2.2) := by
  unfold tev
  have r0 := rd_shift (d := d) (l := ats) (i := 0) (by decide) (by omega)
  by_cases h60 : evs.length = 60
  · rw [if_pos h60, if_pos h60, r0]; simp [Int.add_comm]
  · rw [if_neg h60, if_neg h60]
    obtain ⟨kd, hkd⟩ : ∃ kd, kd = kindW (rdOf ByteArray.empty ws 0) := ⟨_, rfl⟩
    rw [← hkd]
    by_cases hk0 : kd < 0
    · rw [if_pos hk0, if_pos hk0, r0]; simp [Int.add_comm]
    · rw [if_neg hk0, if_neg hk0]
      dsimp only
      rw [tnum_shift ws ats en d 1 0 9999 hl (by decide)]
      obtain ⟨t, ht⟩ : ∃ t, t = tnum ws ats en 1 0 9999 := ⟨_, rfl⟩
      rw [← ht]
      dsimp only
      by_cases hb : t.2.2 ≠ 0
      · rw [if_pos hb, if_pos hb]; simp [hb]
      · rw [if_neg hb, if_neg hb]
        cases seventhB evs t.1 with
        | true => rw [if_pos rfl, if_pos rfl]; simp
        | false =>
          rw [if_neg Bool.false_ne_true, if_neg Bool.false_ne_true]
          have hv : (if varB kd = true then tnum ws (shift d ats) (d + en) 2 0 7 else (0, 0, 0)) = ((if varB kd = true then tnum ws ats en 2 0 7 else (0, 0, 0)).1, (if varB kd = true then d + (tnum ws ats en 2 0 7).2.1 else 0), (if varB kd = true then tnum ws ats en 2 0 7 else (0, 0, 0)).2.2) := by
            cases varB kd with
            | true => rw [if_pos rfl, if_pos rfl, if_pos rfl]; exact tnum_shift ws ats en d 2 0 7 hl (by decide)
            | false => rfl
          have hva : (if varB kd = true then d + (tnum ws ats en 2 0 7).2.1 else 0) = if varB kd = true then d + (if varB kd = true then tnum ws ats en 2 0 7 else (0, 0, 0)).2.1 else 0 := by cases varB kd <;> rfl
          rw [hv, hva]
          obtain ⟨v, hvv⟩ : ∃ v, v = if varB kd = true then tnum ws ats en 2 0 7 else (0, 0, 0) := ⟨_, rfl⟩
          rw [← hvv]
          dsimp only
          have hvn : varB kd = false → v.2.2 = 0 := fun h => by rw [hvv, h]; rfl
          by_cases hb2 : v.2.2 ≠ 0
          · have hvt : varB kd = true := by cases h : varB kd with
              | true => rfl
              | false => exact absurd (hvn h) hb2
            rw [if_pos hb2, if_pos hb2, if_pos hvt]; simp [hb2]
          · rw [if_neg hb2, if_neg hb2]
            obtain ⟨i, hi⟩ : ∃ i : Int, i = if varB kd = true then 3 else 2 := ⟨_, rfl⟩
            have hi0 : 0 ≤ i := by rw [hi]; split <;> decide
            rw [← hi]
            have hz : (if valB kd = true then tnum ws (shift d ats) (d + en) i (-2147483648) 2147483647 else (0, 0, 0)) = ((if valB kd = true then tnum ws ats en i (-2147483648) 2147483647 else (0, 0, 0)).1, (if valB kd = true then d + (if valB kd = true then tnum ws ats en i (-2147483648) 2147483647 else (0, 0, 0)).2.1 else 0), (if valB kd = true then tnum ws ats en i (-2147483648) 2147483647 else (0, 0, 0)).2.2) := by
              cases valB kd with
              | true => rw [if_pos rfl, if_pos rfl, if_pos rfl]; exact tnum_shift ws ats en d i _ _ hl hi0
              | false => rfl
            rw [hz]
            obtain ⟨z, hzz⟩ : ∃ z, z = if valB kd = true then tnum ws ats en i (-2147483648) 2147483647 else (0, 0, 0) := ⟨_, rfl⟩
            rw [← hzz]
            dsimp only
            have hzn : valB kd = false → z.2.2 = 0 := fun h => by rw [hzz, h]; rfl
            by_cases hb3 : z.2.2 ≠ 0
            · have hzt : valB kd = true := by cases h : valB kd with
                | true => rfl
                | false => exact absurd (hzn h) hb3
              rw [if_pos hb3, if_pos hb3, if_pos hzt]; simp [hb3]
            · rw [if_neg hb3, if_neg hb3]
              by_cases hlt : (1 + (if varB kd = true then 1 else 0) + (if valB kd = true then 1 else 0)) + 1 < (ws.length : Int)
              · rw [if_pos hlt, if_pos hlt, rd_shift (by split <;> split <;> omega) (by omega)]; simp [Int.add_comm]
              · rw [if_neg hlt, if_neg hlt]; simp
/-- Where an event is wrong lies in its row. -/
theorem tnum_in (ws : List ByteArray) (ats : List Int) (en i lo hi : Int) (hl : ws.length = ats.length) (h0 : 0 ≤ i) (ha : ∀ x ∈ ats, 0 ≤ x ∧ x ≤ en) (he : 0 ≤ en) : 0 ≤ (tnum ws ats en i lo hi).2.1 ∧ (tnum ws ats en i lo hi).2.1 ≤ en := by
  unfold tnum
  by_cases h : i ≥ (ws.length : Int)
  · rw [if_pos h]; exact ⟨he, Int.le_refl _⟩
  · rw [if_neg h]
    have hr : 0 ≤ rd ats i ∧ rd ats i ≤ en := by
      apply ha
      unfold rd
      rw [List.getD_eq_getElem?_getD, List.getElem?_eq_getElem (by omega)]
      exact List.getElem_mem _
    split <;> exact hr
theorem tev_in (ws : List ByteArray) (ats : List Int) (en : Int) (evs : List S34) (hl : ws.length = ats.length) (hw : 0 < ws.length) (ha : ∀ x ∈ ats, 0 ≤ x ∧ x ≤ en) (he : 0 ≤ en) : 0 ≤ (tev ws ats en evs).2.1 ∧ (tev ws ats en evs).2.1 ≤ en := by
  have hr : ∀ i : Int, 0 ≤ i → i < ats.length → 0 ≤ rd ats i ∧ rd ats i ≤ en := by
    intro i h0 h1
    apply ha
    unfold rd
    rw [List.getD_eq_getElem?_getD, List.getElem?_eq_getElem (by omega)]
    exact List.getElem_mem _
  unfold tev
  by_cases h60 : evs.length = 60
  · rw [if_pos h60]; exact hr 0 (by decide) (by omega)
  · rw [if_neg h60]
    by_cases hk0 : kindW (rdOf ByteArray.empty ws 0) < 0
    · rw [if_pos hk0]; exact hr 0 (by decide) (by omega)
    · rw [if_neg hk0]
      dsimp only
      obtain ⟨kd, hkd⟩ : ∃ kd, kd = kindW (rdOf ByteArray.empty ws 0) := ⟨_, rfl⟩
      rw [← hkd]
      have ht := tnum_in ws ats en 1 0 9999 hl (by decide) ha he
      obtain ⟨t, htt⟩ : ∃ t, t = tnum ws ats en 1 0 9999 := ⟨_, rfl⟩
      rw [← htt] at ht ⊢
      have hv : 0 ≤ (if varB kd = true then tnum ws ats en 2 0 7 else (0, 0, 0)).2.1 ∧ (if varB kd = true then tnum ws ats en 2 0 7 else (0, 0, 0)).2.1 ≤ en := by
        split
        · exact tnum_in ws ats en 2 _ _ hl (by decide) ha he
        · exact ⟨Int.le_refl _, he⟩
      have hz : 0 ≤ (if valB kd = true then tnum ws ats en (if varB kd = true then 3 else 2) (-2147483648) 2147483647 else (0, 0, 0)).2.1 ∧ (if valB kd = true then tnum ws ats en (if varB kd = true then 3 else 2) (-2147483648) 2147483647 else (0, 0, 0)).2.1 ≤ en := by
        split
        · exact tnum_in ws ats en _ _ _ hl (by split <;> decide) ha he
        · exact ⟨Int.le_refl _, he⟩
      obtain ⟨v, hvv⟩ : ∃ v, v = if varB kd = true then tnum ws ats en 2 0 7 else (0, 0, 0) := ⟨_, rfl⟩
      obtain ⟨z, hzz⟩ : ∃ z, z = if valB kd = true then tnum ws ats en (if varB kd = true then 3 else 2) (-2147483648) 2147483647 else (0, 0, 0) := ⟨_, rfl⟩
      rw [← hvv] at hv
      rw [← hzz] at hz
      rw [← hvv, ← hzz]
      obtain ⟨i, hi⟩ : ∃ i : Int, i = (1 + (if varB kd = true then 1 else 0) + (if valB kd = true then 1 else 0)) + 1 := ⟨_, rfl⟩
      have hi0 : 0 ≤ i := by rw [hi]; split <;> split <;> decide
      rw [← hi]
      by_cases h1 : t.2.2 ≠ 0
      · rw [if_pos h1]; exact ht
      · rw [if_neg h1]
        by_cases h2 : seventhB evs t.1 = true
        · rw [if_pos h2]; exact ht
        · rw [if_neg h2]
          by_cases h3 : v.2.2 ≠ 0
          · rw [if_pos h3]; exact hv
          · rw [if_neg h3]
            by_cases h4 : z.2.2 ≠ 0
            · rw [if_pos h4]; exact hz
            · rw [if_neg h4]
              by_cases h5 : i < (ws.length : Int)
              · rw [if_pos h5]; exact hr i hi0 (by omega)
              · rw [if_neg h5]; exact ⟨Int.le_refl _, he⟩
end Go.Proofs.YthkpocgbinmeiaaDoor.U

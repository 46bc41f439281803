/- Proved: with one edge more the least cycle is not greater. No condition. -/
import Derived.Test.YtimbamimabdmcaaGMoreWalk
import Derived.Test.YtimbamimabdmcaaUCycle
import Derived.Test.YtimbamimabdmcaaPureCycleLeast
namespace Go.Proofs.Ytimbamimabdmcaa.Pure
set_option linter.unusedVariables false
set_option linter.unusedSimpArgs false
open Go Go.RowKit Go.Proofs.Ytimbamimabdmcaa.P Go.Proofs.YtimbamimabdmcaaW.PrintWords Go.Proofs.YtimbamimabdmcaaW.PrintLast Go.Proofs.YtimbamimabdmcaaW.PrintMore Go.Proofs.Ytimbamimabdmcaa.U

/-! ### rows rise -/
def lexLt : List Int → List Int → Prop
  | a :: s, b :: t => a < b ∨ (a = b ∧ lexLt s t)
  | _, _ => False
theorem lex_snoc (r : List Int) (x y : Int) (h : x < y) : lexLt (r ++ [x]) (r ++ [y]) := by
  induction r with
  | nil => exact .inl h
  | cons a r ih => exact .inr ⟨rfl, ih⟩
theorem lex_append (a b x y : List Int) (h : lexLt a b) : lexLt (a ++ x) (b ++ y) := by
  induction a generalizing b with
  | nil => cases b <;> exact h.elim
  | cons c a ih =>
    cases b with
    | nil => exact h.elim
    | cons d b =>
      rcases h with h | ⟨h, h2⟩
      · exact .inl h
      · exact .inr ⟨h, ih b h2⟩
theorem rows_rise (n L : Nat) : List.Pairwise lexLt (rowsR n L) := by
  induction L with
  | zero => simp [rowsR]
  | succ L ih =>
    simp only [rowsR]
    rw [List.pairwise_flatMap]
    constructor
    · intro r _
      unfold nexts
      rw [List.pairwise_map]
      refine List.Pairwise.imp ?_ (List.Pairwise.filter _ List.pairwise_lt_range)
      intro x y h
      exact lex_snoc r _ _ (by omega)
    · refine ih.imp ?_
      intro r s h x hx y hy
      unfold nexts at hx hy
      obtain ⟨j, _, rfl⟩ := List.mem_map.1 hx
      obtain ⟨k, _, rfl⟩ := List.mem_map.1 hy
      exact lex_append r s _ _ h
theorem find_first {α : Type} (R : α → α → Prop) (w : α → Bool) (xs : List α) (hp : List.Pairwise R xs) (m l : α) (hf : xs.find? w = some m) (hl : l ∈ xs) (hw : w l = true) : m = l ∨ R m l := by
  induction xs with
  | nil => cases hl
  | cons x xs ih =>
    rw [List.pairwise_cons] at hp
    rw [List.find?_cons] at hf
    cases hx : w x with
    | true =>
      rw [hx] at hf
      obtain rfl := Option.some.inj hf
      rcases List.mem_cons.1 hl with h | h
      · exact .inl h.symm
      · exact .inr (hp.1 l h)
    | false =>
      rw [hx] at hf
      rcases List.mem_cons.1 hl with h | h
      · subst h; rw [hx] at hw; cases hw
      · exact ih hp.2 hf h
theorem cmp_eq (x y : Int) : cmp_Compare_int.f x y = some (if x < y then -1 else if x > y then 1 else 0) := by
  simp only [cmp_Compare_int.f, cmp_isNaN_int.f, Option.bind_some]
  have h1 : (x != x) = false := by simp
  have h2 : (y != y) = false := by simp
  rw [h1, h2, if_neg (by simp), if_neg (by simp)]
  split
  · rfl
  · split <;> rfl
theorem compare_ev (m l : List Int) (hl : m.length = l.length) (hb : m.length < 1000000) (d : Nat) : ∀ i : Nat, i + d = m.length → (m.drop i = l.drop i ∨ lexLt (m.drop i) (l.drop i)) → ∃ c, c ≤ 0 ∧ Ev (fun k => slices_Compare_int_int.l0 k m l m (m.length : Int) (i : Int)) c := by
  induction d with
  | zero =>
    intro i hi h
    refine ⟨0, by decide, 1, fun k hk => ?_⟩
    obtain ⟨k, rfl⟩ : ∃ m, k = m + 1 := ⟨k - 1, by omega⟩
    simp only [slices_Compare_int_int.l0]
    rw [if_neg (by omega), if_neg (by omega)]
  | succ d ih =>
    intro i hi h
    have gm : rd m (i : Int) = m[i]'(by omega) := by
      have := rd_some (l := m) (i := i) (by omega)
      rw [List.getElem?_eq_getElem (by omega)] at this
      exact (Option.some.inj this).symm
    have gl : rd l (i : Int) = l[i]'(by omega) := by
      have := rd_some (l := l) (i := i) (by omega)
      rw [List.getElem?_eq_getElem (by omega)] at this
      exact (Option.some.inj this).symm
    rw [List.drop_eq_getElem_cons (by omega : i < m.length), List.drop_eq_getElem_cons (by omega : i < l.length)] at h
    have hcase : m[i]'(by omega) < l[i]'(by omega) ∨ (m[i]'(by omega) = l[i]'(by omega) ∧ (m.drop (i + 1) = l.drop (i + 1) ∨ lexLt (m.drop (i + 1)) (l.drop (i + 1)))) := by
      rcases h with h | h | ⟨h, h2⟩
      · exact .inr ⟨(List.cons.inj h).1, .inl (List.cons.inj h).2⟩
      · exact .inl h
      · exact .inr ⟨h, .inr h2⟩
    rcases hcase with h1 | ⟨h1, h2⟩
    · refine ⟨-1, by decide, 1, fun k hk => ?_⟩
      obtain ⟨k, rfl⟩ : ∃ m, k = m + 1 := ⟨k - 1, by omega⟩
      simp only [slices_Compare_int_int.l0]
      rw [if_pos (by omega), if_pos (by omega), if_pos (by omega), if_neg (by omega), if_pos (by omega), cmp_eq, Option.bind_some, gm, gl, if_pos h1, if_neg (by decide)]
    · obtain ⟨c, hc, K, e⟩ := ih (i + 1) (by omega) h2
      refine ⟨c, hc, K + 1, fun k hk => ?_⟩
      obtain ⟨k, rfl⟩ : ∃ m, k = m + 1 := ⟨k - 1, by omega⟩
      simp only [slices_Compare_int_int.l0]
      rw [if_pos (by omega), if_pos (by omega), if_pos (by omega), if_neg (by omega), if_pos (by omega), cmp_eq, Option.bind_some, gm, gl, h1, if_neg (Int.lt_irrefl _), if_neg (Int.lt_irrefl _), if_pos rfl, w64 (by omega) (by omega), show ((i : Int) + 1) = ((i + 1 : Nat) : Int) by omega]
      exact e k (by omega)
/-! ### what is told -/
theorem res_found (l0 : List Int) (d : Nat) : ∀ L, (resS l0 d L).2 = 0 → ∃ L', L ≤ L' ∧ L' < L + d ∧ (resS l0 d L).1 ∈ rowsR l0.length L' ∧ walkS l0 (resS l0 d L).1 = true := by
  induction d with
  | zero => intro L h; exact absurd h (by show ¬ ((7 : Int) = 0); decide)
  | succ d ih =>
    intro L h
    unfold resS at h ⊢
    cases hf : (rowsR l0.length L).find? (walkS l0) with
    | some r =>
      dsimp only
      exact ⟨L, Nat.le_refl _, by omega, List.mem_of_find?_eq_some hf, List.find?_some hf⟩
    | none =>
      rw [hf] at h
      dsimp only at h ⊢
      obtain ⟨L', a, b, c, e⟩ := ih (L + 1) h
      exact ⟨L', by omega, by omega, c, e⟩
theorem res_least (l0 : List Int) (d : Nat) : ∀ L r L', L ≤ L' → L' < L + d → r ∈ rowsR l0.length L' → walkS l0 r = true → (resS l0 d L).2 = 0 ∧ ((resS l0 d L).1.length < r.length ∨ ((resS l0 d L).1.length = r.length ∧ ((resS l0 d L).1 = r ∨ lexLt (resS l0 d L).1 r))) := by
  induction d with
  | zero => intro L r L' h1 h2; omega
  | succ d ih =>
    intro L r L' h1 h2 hr hw
    obtain ⟨hrl, _, _⟩ := rows_in _ _ r hr
    unfold resS
    cases hf : (rowsR l0.length L).find? (walkS l0) with
    | some m =>
      dsimp only
      obtain ⟨hml, _, _⟩ := rows_in _ _ m (List.mem_of_find?_eq_some hf)
      refine ⟨rfl, ?_⟩
      rcases Nat.eq_or_lt_of_le h1 with e | e
      · subst e
        exact .inr ⟨by omega, find_first lexLt _ _ (rows_rise _ _) m r hf hr hw⟩
      · left; omega
    | none =>
      dsimp only
      refine ih (L + 1) r L' ?_ (by omega) hr hw
      rcases Nat.eq_or_lt_of_le h1 with e | e
      · subst e
        have := List.find?_eq_none.1 hf r hr
        exact absurd hw this
      · exact e
/-! ### one edge more -/
theorem or_bit {m : Int} {i j : Nat} (h0 : 0 ≤ m) (h1 : m < 64) (hi : i < 6) (hj : j < 6) : bitB (orBit m i) j = (bitB m j || decide (j = i)) := by
  obtain ⟨k, rfl⟩ := Int.eq_ofNat_of_zero_le h0
  obtain ⟨t1, t2, t3⟩ := or_table ⟨k, by omega⟩ ⟨i, hi⟩
  have := t3 ⟨j, hj⟩
  dsimp only at this
  unfold bitB
  rw [Bool.eq_iff_iff, Bool.or_eq_true, decide_eq_true_eq, decide_eq_true_eq, decide_eq_true_eq, this]
  constructor
  · rintro (h | h)
    · exact .inl h
    · exact .inr (congrArg Fin.val h)
  · rintro (h | h)
    · exact .inl h
    · exact .inr (Fin.ext h)
set_option maxRecDepth 100000 in
theorem or_small : ∀ n : Fin 7, ∀ m : Fin 64, ∀ i : Fin 6, m.val < 2 ^ n.val → i.val < n.val → 0 ≤ orBit ((m.val : Nat) : Int) i.val ∧ orBit ((m.val : Nat) : Int) i.val < 2 ^ n.val := by decide +kernel
theorem or_lt {n : Nat} {m : Int} {i : Nat} (hn : n ≤ 6) (h0 : 0 ≤ m) (h1 : m < 2 ^ n) (hi : i < n) : 0 ≤ orBit m i ∧ orBit m i < 2 ^ n := by
  obtain ⟨k, rfl⟩ := Int.eq_ofNat_of_zero_le h0
  have hk : k < 2 ^ n := by
    have : ((k : Nat) : Int) < ((2 ^ n : Nat) : Int) := by rw [Int.natCast_pow]; exact h1
    omega
  have h64 : 2 ^ n ≤ 64 := Nat.le_trans (Nat.pow_le_pow_right (by decide) hn) (by decide)
  exact or_small ⟨n, by omega⟩ ⟨k, by omega⟩ ⟨i, by omega⟩ hk hi
theorem may_small {a : List Int} (hu : InU a) (hm : mayB a = true) : a.length ≤ 6 ∧ ∀ x ∈ a, 0 ≤ x ∧ x < 2 ^ a.length := by
  unfold mayB at hm
  simp only [Bool.and_eq_true, decide_eq_true_eq, Bool.not_eq_true', List.any_eq_false] at hm
  refine ⟨hm.1, fun x hx => ⟨(hu x hx).1, ?_⟩⟩
  have := hm.2 x hx
  omega
theorem pow64 {n : Nat} (hn : n ≤ 6) : (2 : Int) ^ n ≤ 64 := by
  have h64 : 2 ^ n ≤ 64 := Nat.le_trans (Nat.pow_le_pow_right (by decide) hn) (by decide)
  have : ((2 ^ n : Nat) : Int) ≤ 64 := by omega
  rwa [Int.natCast_pow] at this
theorem or_len {a : List Int} {I J : Nat} : (orAt a I J).length = a.length := by unfold orAt; rw [List.length_set]
theorem or_rd {a : List Int} {I J : Nat} (x : Int) (h0 : 0 ≤ x) (h1 : x < a.length) : rd (orAt a I J) x = if x = I then orBit (rd a x) J else rd a x := by
  obtain ⟨k, rfl⟩ := Int.eq_ofNat_of_zero_le h0
  unfold orAt rd
  rw [Int.toNat_natCast, Int.toNat_natCast, Int.toNat_natCast, List.getD_eq_getElem?_getD, List.getD_eq_getElem?_getD, List.getD_eq_getElem?_getD, List.getElem?_set]
  by_cases h : I = k
  · subst h
    rw [if_pos rfl, if_pos (by omega), if_pos rfl]; rfl
  · rw [if_neg h, if_neg (by omega)]
theorem or_bitB {a : List Int} {I J : Nat} (hu : InU a) (hm : mayB a = true) (hI : I < a.length) (hJ : J < a.length) (x y : Int) (hx : 0 ≤ x ∧ x < a.length) (hy : 0 ≤ y ∧ y < a.length) : bitB (rd (orAt a I J) x) y.toNat = (bitB (rd a x) y.toNat || (decide (x = I) && decide (y = J))) := by
  obtain ⟨hn, hs⟩ := may_small hu hm
  rw [or_rd x hx.1 hx.2]
  have h1 := hs _ (rd_mem_i hx.1 hx.2)
  have h64 := pow64 hn
  by_cases h : x = I
  · rw [if_pos h, or_bit h1.1 (by omega) (by omega) (by omega), decide_eq_true h, Bool.true_and]
    congr 1
    rw [decide_eq_decide]; omega
  · rw [if_neg h, decide_eq_false h, Bool.false_and, Bool.or_false]
theorem or_u {a : List Int} {I J : Nat} (hu : InU a) (hm : mayB a = true) (hI : I < a.length) (hJ : J < a.length) : InU (orAt a I J) ∧ mayB (orAt a I J) = true := by
  obtain ⟨hn, hs⟩ := may_small hu hm
  have h64 := pow64 hn
  have hall : ∀ x ∈ orAt a I J, 0 ≤ x ∧ x < 2 ^ a.length := by
    intro x hx
    unfold orAt at hx
    rcases List.mem_or_eq_of_mem_set hx with h | h
    · exact hs x h
    · rw [h, Int.toNat_natCast]
      have h1 := hs _ (rd_mem (l := a) hI)
      exact or_lt hn h1.1 h1.2 hJ
  refine ⟨fun x hx => by have := hall x hx; omega, ?_⟩
  unfold mayB
  rw [or_len, Bool.and_eq_true, decide_eq_true_eq]
  refine ⟨hn, ?_⟩
  rw [Bool.not_eq_true', List.any_eq_false]
  intro x hx
  have := hall x hx
  rw [decide_eq_true_eq]; omega
theorem walk_more {a : List Int} {I J : Nat} (hu : InU a) (hm : mayB a = true) (hI : I < a.length) (hJ : J < a.length) (r : List Int) (hr : InN a.length r) (hw : walkS a r = true) : walkS (orAt a I J) r = true := by
  unfold walkS at hw ⊢
  rw [okFrom_iff] at hw ⊢
  refine ⟨hw.1, fun j h0 h1 => ?_⟩
  have := hw.2 j h0 h1
  unfold okAt at this ⊢
  rw [Bool.and_eq_true] at this ⊢
  refine ⟨this.1, ?_⟩
  rw [or_bitB hu hm hI hJ _ _ (hr _ (rd_mem (by omega))) (hr _ (rd_mem (Nat.mod_lt _ (by omega)))), this.2, Bool.true_or]
theorem walk_less {a : List Int} {I J : Nat} (hu : InU a) (hm : mayB a = true) (hI : I < a.length) (hJ : J < a.length) (r : List Int) (hr : InN a.length r) (hw : walkS (orAt a I J) r = true) (hno : (I : Int) ∉ r ∨ (J : Int) ∉ r) : walkS a r = true := by
  unfold walkS at hw ⊢
  rw [okFrom_iff] at hw ⊢
  refine ⟨hw.1, fun j h0 h1 => ?_⟩
  have := hw.2 j h0 h1
  unfold okAt at this ⊢
  rw [Bool.and_eq_true] at this ⊢
  refine ⟨this.1, ?_⟩
  have hmx := rd_mem (l := r) (i := j) (by omega)
  have hmy := rd_mem (l := r) (i := (j + 1) % r.length) (Nat.mod_lt _ (by omega))
  have h2 := this.2
  rw [or_bitB hu hm hI hJ _ _ (hr _ hmx) (hr _ hmy), Bool.or_eq_true, Bool.and_eq_true, decide_eq_true_eq, decide_eq_true_eq] at h2
  rcases h2 with h | ⟨h3, h4⟩
  · exact h
  · rcases hno with h | h
    · exact absurd (h3 ▸ hmx) h
    · exact absurd (h4 ▸ hmy) h
theorem CycleMore : recantlaw18_CycleMore.Pure := by
  intro m0 a1 a2 _ _ hw0 _ _
  obtain ⟨t1, t2, t3⟩ := mn_take m0 8 (by decide)
  obtain ⟨a, ha⟩ : ∃ l, l = m0.take (mn (m0.length : Int) 8).toNat := ⟨_, rfl⟩
  rw [← ha] at t3 ⊢
  have hu : InU a := fun x hx => wf_u32 (hw0 x (by rw [ha] at hx; exact List.mem_of_mem_take hx))
  have hlf := least_f a hu
  by_cases hm : mayB a = true
  · rw [if_pos hm] at hlf
    by_cases hn0 : a.length = 0
    · rw [hn0] at hlf
      exact ⟨[], 7, hlf, .inl ⟨.inr hn0, rfl⟩⟩
    · have hn : a.length ≤ 6 := (may_small hu hm).1
      obtain ⟨q1, q2, q3⟩ := res_none a a.length 1 (Nat.le_refl _)
      obtain ⟨hI0, hI1⟩ := idxM_in a1 a.length (by omega) (by omega)
      obtain ⟨hJ0, hJ1⟩ := idxM_in a2 a.length (by omega) (by omega)
      obtain ⟨I, hI⟩ := Int.eq_ofNat_of_zero_le hI0
      obtain ⟨J, hJ⟩ := Int.eq_ofNat_of_zero_le hJ0
      rw [hI] at hI1 ⊢
      rw [hJ] at hJ1 ⊢
      have hI2 : I < a.length := by omega
      have hJ2 : J < a.length := by omega
      obtain ⟨hub, hmb⟩ := or_u hu hm hI2 hJ2
      have hlb := least_f (orAt a I J) hub
      rw [if_pos hmb, or_len] at hlb
      obtain ⟨p1, p2, p3⟩ := res_none (orAt a I J) a.length 1 (Nat.le_refl _)
      refine ⟨(resS a a.length 1).1, (resS a a.length 1).2, hlf, .inr ⟨by rcases q2 with h | h <;> omega, by omega, _, _, hlb, ?_⟩⟩
      rcases q2 with he | he
      · obtain ⟨L', b1, b2, b3, b4⟩ := res_found a a.length 1 he
        obtain ⟨c1, c2, c3⟩ := rows_in _ _ _ b3
        have hw := walk_more hu hm hI2 hJ2 _ c3 b4
        have hle := res_least (orAt a I J) a.length 1 _ L' b1 b2 (by rw [or_len]; exact b3) hw
        obtain ⟨L2, d1, d2, d3, d4⟩ := res_found (orAt a I J) a.length 1 hle.1
        obtain ⟨e1, e2, e3⟩ := rows_in _ _ _ d3
        right
        refine ⟨by omega, he, hle.1, by omega, ?_⟩
        rcases hle.2 with h | ⟨h, h2⟩
        · exact .inl h
        · right
          refine ⟨by omega, h, ?_⟩
          obtain ⟨c, hc, K, e⟩ := compare_ev _ _ h (by omega) _ 0 (Nat.zero_add _) (by rw [List.drop_zero, List.drop_zero]; exact h2)
          exact ⟨c, K, e K (Nat.le_refl _), hc⟩
      · have hnil : (resS a a.length 1).1 = [] := by
          rw [he] at q1
          have h7 : ((7 : Int) == 7) = true := rfl
          rw [h7] at q1
          have := beq_iff_eq.1 q1.symm
          exact List.eq_nil_of_length_eq_zero (by omega)
        left
        refine ⟨he, hnil, ?_⟩
        rcases p2 with hf | hf
        · right
          obtain ⟨L2, d1, d2, d3, d4⟩ := res_found (orAt a I J) a.length 1 hf
          obtain ⟨e1, e2, e3⟩ := rows_in _ _ _ d3
          rw [or_len] at d3 e3
          have hboth : ¬ ((I : Int) ∉ (resS (orAt a I J) a.length 1).1 ∨ (J : Int) ∉ (resS (orAt a I J) a.length 1).1) := by
            intro hno
            have hw := walk_less hu hm hI2 hJ2 _ e3 d4 hno
            have := (res_least a a.length 1 _ L2 d1 d2 d3 hw).1
            omega
          refine ⟨hf, by omega, ?_, ?_⟩
          · rw [List.contains_iff_mem]; exact Classical.byContradiction fun h => hboth (.inl h)
          · rw [List.contains_iff_mem]; exact Classical.byContradiction fun h => hboth (.inr h)
        · exact .inl hf
  · rw [if_neg hm] at hlf
    exact ⟨[], 1, hlf, .inl ⟨.inl rfl, rfl⟩⟩
end Go.Proofs.Ytimbamimabdmcaa.Pure

/- Proved: rows rise, each has each place once, and keeps what is asked; n places without order have as many as there are ways to turn them; with one more thing asked there are not more, for every input. No condition. -/
import Derived.Test.YtimbamimabdmcaaGRiseWalk
import Derived.Test.YtimbamimabdmcaaUKeeps
import Derived.Test.YtimbamimabdmcaaULex
import Derived.Test.YtimbamimabdmcaaUExtend
import Derived.Test.YtimbamimabdmcaaGMoreWalk
namespace Go.Proofs.Ytimbamimabdmcaa.Pure
set_option linter.unusedVariables false
set_option linter.unusedSimpArgs false
open Go Go.RowKit Go.Proofs.Ytimbamimabdmcaa.P Go.Proofs.YtimbamimabdmcaaW.PrintWords Go.Proofs.YtimbamimabdmcaaW.PrintLast Go.Proofs.YtimbamimabdmcaaW.PrintMore Go.Proofs.Ytimbamimabdmcaa.U

theorem wf_u32x {x : Int} (h : (Lit.int .u32 x).wf = true) : 0 ≤ x ∧ x < 4294967296 := by
  have := bounds_u32 h; omega
theorem mn_takex {α : Type} (l : List α) (c : Int) (hc : 0 ≤ c) : 0 ≤ mn (l.length : Int) c ∧ mn (l.length : Int) c ≤ (l.length : Int) ∧ ((l.take (mn (l.length : Int) c).toNat).length : Int) ≤ c := by
  unfold mn
  refine ⟨by split <;> omega, by split <;> omega, ?_⟩
  rw [List.length_take]
  split <;> omega
theorem or_bit {m : Int} {i j : Nat} (h0 : 0 ≤ m) (h1 : m < 64) (hi : i < 6) (hj : j < 6) : bitB (orBit m i) j = (bitB m j || decide (j = i)) := by
  obtain ⟨k, rfl⟩ := Int.eq_ofNat_of_zero_le h0
  obtain ⟨t1, t2, t3⟩ := or_table ⟨k, by omega⟩ ⟨i, hi⟩
  have := t3 ⟨j, hj⟩
  dsimp only at this
  unfold bitB
  rw [Bool.eq_iff_iff, Bool.or_eq_true, decide_eq_true_eq, decide_eq_true_eq, decide_eq_true_eq, this]
  constructor
  · rintro (h | h)
    · exact .inl h
    · exact .inr (congrArg Fin.val h)
  · rintro (h | h)
    · exact .inl h
    · exact .inr (Fin.ext h)
set_option maxRecDepth 100000 in
theorem or_small : ∀ n : Fin 7, ∀ m : Fin 64, ∀ i : Fin 6, m.val < 2 ^ n.val → i.val < n.val → 0 ≤ orBit ((m.val : Nat) : Int) i.val ∧ orBit ((m.val : Nat) : Int) i.val < 2 ^ n.val := by decide +kernel
theorem or_lt {n : Nat} {m : Int} {i : Nat} (hn : n ≤ 6) (h0 : 0 ≤ m) (h1 : m < 2 ^ n) (hi : i < n) : 0 ≤ orBit m i ∧ orBit m i < 2 ^ n := by
  obtain ⟨k, rfl⟩ := Int.eq_ofNat_of_zero_le h0
  have hk : k < 2 ^ n := by
    have : ((k : Nat) : Int) < ((2 ^ n : Nat) : Int) := by rw [Int.natCast_pow]; exact h1
    omega
  have h64 : 2 ^ n ≤ 64 := Nat.le_trans (Nat.pow_le_pow_right (by decide) hn) (by decide)
  exact or_small ⟨n, by omega⟩ ⟨k, by omega⟩ ⟨i, by omega⟩ hk hi
theorem may_small {a : List Int} (hu : InU a) (hm : mayB a = true) : a.length ≤ 6 ∧ ∀ x ∈ a, 0 ≤ x ∧ x < 2 ^ a.length := by
  unfold mayB at hm
  simp only [Bool.and_eq_true, decide_eq_true_eq, Bool.not_eq_true', List.any_eq_false] at hm
  refine ⟨hm.1, fun x hx => ⟨(hu x hx).1, ?_⟩⟩
  have := hm.2 x hx
  omega
theorem pow64 {n : Nat} (hn : n ≤ 6) : (2 : Int) ^ n ≤ 64 := by
  have h64 : 2 ^ n ≤ 64 := Nat.le_trans (Nat.pow_le_pow_right (by decide) hn) (by decide)
  have : ((2 ^ n : Nat) : Int) ≤ 64 := by omega
  rwa [Int.natCast_pow] at this
theorem or_len {a : List Int} {I J : Nat} : (orAt a I J).length = a.length := by unfold orAt; rw [List.length_set]
theorem or_rd {a : List Int} {I J : Nat} (x : Int) (h0 : 0 ≤ x) (h1 : x < a.length) : rd (orAt a I J) x = if x = I then orBit (rd a x) J else rd a x := by
  obtain ⟨k, rfl⟩ := Int.eq_ofNat_of_zero_le h0
  unfold orAt rd
  rw [Int.toNat_natCast, Int.toNat_natCast, Int.toNat_natCast, List.getD_eq_getElem?_getD, List.getD_eq_getElem?_getD, List.getD_eq_getElem?_getD, List.getElem?_set]
  by_cases h : I = k
  · subst h
    rw [if_pos rfl, if_pos (by omega), if_pos rfl]; rfl
  · rw [if_neg h, if_neg (by omega)]
theorem or_bitB {a : List Int} {I J : Nat} (hu : InU a) (hm : mayB a = true) (hI : I < a.length) (hJ : J < a.length) (x y : Int) (hx : 0 ≤ x ∧ x < a.length) (hy : 0 ≤ y ∧ y < a.length) : bitB (rd (orAt a I J) x) y.toNat = (bitB (rd a x) y.toNat || (decide (x = I) && decide (y = J))) := by
  obtain ⟨hn, hs⟩ := may_small hu hm
  rw [or_rd x hx.1 hx.2]
  have h1 := hs _ (rd_mem_i hx.1 hx.2)
  have h64 := pow64 hn
  by_cases h : x = I
  · rw [if_pos h, or_bit h1.1 (by omega) (by omega) (by omega), decide_eq_true h, Bool.true_and]
    congr 1
    rw [decide_eq_decide]; omega
  · rw [if_neg h, decide_eq_false h, Bool.false_and, Bool.or_false]
theorem or_u {a : List Int} {I J : Nat} (hu : InU a) (hm : mayB a = true) (hI : I < a.length) (hJ : J < a.length) : InU (orAt a I J) ∧ mayB (orAt a I J) = true := by
  obtain ⟨hn, hs⟩ := may_small hu hm
  have h64 := pow64 hn
  have hall : ∀ x ∈ orAt a I J, 0 ≤ x ∧ x < 2 ^ a.length := by
    intro x hx
    unfold orAt at hx
    rcases List.mem_or_eq_of_mem_set hx with h | h
    · exact hs x h
    · rw [h, Int.toNat_natCast]
      have h1 := hs _ (rd_mem (l := a) hI)
      exact or_lt hn h1.1 h1.2 hJ
  refine ⟨fun x hx => by have := hall x hx; omega, ?_⟩
  unfold mayB
  rw [or_len, Bool.and_eq_true, decide_eq_true_eq]
  refine ⟨hn, ?_⟩
  rw [Bool.not_eq_true', List.any_eq_false]
  intro x hx
  have := hall x hx
  rw [decide_eq_true_eq]; omega
/-! ### slices.Compare of a row and a later one -/
theorem cmp_eq (x y : Int) : cmp_Compare_int.f x y = some (if x < y then -1 else if x > y then 1 else 0) := by
  simp only [cmp_Compare_int.f, cmp_isNaN_int.f, Option.bind_some]
  have h1 : (x != x) = false := by simp
  have h2 : (y != y) = false := by simp
  rw [h1, h2, if_neg (by simp), if_neg (by simp)]
  split
  · rfl
  · split <;> rfl
theorem compare_lt (m l : List Int) (hl : m.length = l.length) (hb : m.length < 1000000) (d : Nat) : ∀ i : Nat, i + d = m.length → lexLt (m.drop i) (l.drop i) → Ev (fun k => slices_Compare_int_int.l0 k m l m (m.length : Int) (i : Int)) (-1) := by
  induction d with
  | zero =>
    intro i hi h
    rw [List.drop_eq_nil_of_le (by omega)] at h
    cases h
  | succ d ih =>
    intro i hi h
    have gm : rd m (i : Int) = m[i]'(by omega) := by
      have := rd_some (l := m) (i := i) (by omega)
      rw [List.getElem?_eq_getElem (by omega)] at this
      exact (Option.some.inj this).symm
    have gl : rd l (i : Int) = l[i]'(by omega) := by
      have := rd_some (l := l) (i := i) (by omega)
      rw [List.getElem?_eq_getElem (by omega)] at this
      exact (Option.some.inj this).symm
    rw [List.drop_eq_getElem_cons (by omega : i < m.length), List.drop_eq_getElem_cons (by omega : i < l.length)] at h
    rcases h with h1 | ⟨h1, h2⟩
    · refine ⟨1, fun k hk => ?_⟩
      obtain ⟨k, rfl⟩ : ∃ m, k = m + 1 := ⟨k - 1, by omega⟩
      simp only [slices_Compare_int_int.l0]
      rw [if_pos (by omega), if_pos (by omega), if_pos (by omega), if_neg (by omega), if_pos (by omega), cmp_eq, Option.bind_some, gm, gl, if_pos h1, if_neg (by decide)]
    · obtain ⟨K, e⟩ := ih (i + 1) (by omega) h2
      refine ⟨K + 1, fun k hk => ?_⟩
      obtain ⟨k, rfl⟩ : ∃ m, k = m + 1 := ⟨k - 1, by omega⟩
      simp only [slices_Compare_int_int.l0]
      rw [if_pos (by omega), if_pos (by omega), if_pos (by omega), if_neg (by omega), if_pos (by omega), cmp_eq, Option.bind_some, gm, gl, h1, if_neg (Int.lt_irrefl _), if_neg (Int.lt_irrefl _), if_pos rfl, w64 (by omega) (by omega), show ((i : Int) + 1) = ((i + 1 : Nat) : Int) by omega]
      exact e k (by omega)
/-! ### what was seen -/
set_option maxRecDepth 100000 in
theorem and_table : ∀ m : Fin 64, ∀ s : Fin 64, (∀ j : Fin 6, ¬ (bitB ((m.val : Nat) : Int) j.val = true ∧ bitB ((s.val : Nat) : Int) j.val = true)) → bits BinOp.and IntKind.u32 ((m.val : Nat) : Int) ((s.val : Nat) : Int) = 0 := by decide +kernel
theorem and_none {m s : Int} (h0 : 0 ≤ m) (h1 : m < 64) (h2 : 0 ≤ s) (h3 : s < 64) (h : ∀ j, j < 6 → ¬ (bitB m j = true ∧ bitB s j = true)) : bits BinOp.and IntKind.u32 m s = 0 := by
  obtain ⟨a, rfl⟩ := Int.eq_ofNat_of_zero_le h0
  obtain ⟨b, rfl⟩ := Int.eq_ofNat_of_zero_le h2
  exact and_table ⟨a, by omega⟩ ⟨b, by omega⟩ (fun j => h j.val j.isLt)
theorem bit_zero (i : Nat) : bitB 0 i = false := by unfold bitB; rw [Int.zero_ediv]; rfl
theorem or_64 {m : Int} {i : Nat} (h0 : 0 ≤ m) (h1 : m < 64) (hi : i < 6) : 0 ≤ orBit m i ∧ orBit m i < 64 := or_lt (n := 6) (by omega) h0 h1 hi
theorem seen_bits (r : List Int) (hin : InN 6 r) : ∀ j, j ≤ r.length → 0 ≤ seenF (r.take j) ∧ seenF (r.take j) < 64 ∧ ∀ i : Nat, i < 6 → bitB (seenF (r.take j)) i = (r.take j).contains (i : Int) := by
  intro j
  induction j with
  | zero => intro _; exact ⟨Int.le_refl _, by show (0 : Int) < 64; decide, fun i _ => bit_zero i⟩
  | succ j ih =>
    intro hj
    obtain ⟨h0, h1, h2⟩ := ih (by omega)
    have hx := hin _ (rd_mem (l := r) (i := j) (by omega))
    rw [take_snocI r j (by omega), seen_snoc]
    obtain ⟨x, hxe⟩ := Int.eq_ofNat_of_zero_le hx.1
    rw [hxe] at hx ⊢
    rw [Int.toNat_natCast]
    obtain ⟨o1, o2⟩ := or_64 h0 h1 (show x < 6 by omega)
    refine ⟨o1, o2, fun i hi => ?_⟩
    rw [or_bit h0 h1 (by omega) hi, h2 i hi, Bool.eq_iff_iff, Bool.or_eq_true, List.contains_iff_mem, List.contains_iff_mem, decide_eq_true_eq, List.mem_append, List.mem_singleton]
    constructor
    · rintro (h | h)
      · exact .inl h
      · exact .inr (by omega)
    · rintro (h | h)
      · exact .inl h
      · exact .inr (by omega)
/-! ### rows without order -/
set_option maxRecDepth 100000 in
theorem rows_fact : ∀ n : Fin 7, (rowsR n.val n.val).length = factN n.val := by decide +kernel
theorem loose_zero {a : List Int} (h : looseB a = true) (x : Int) : rd a x = 0 := by
  unfold looseB at h
  rw [List.all_eq_true] at h
  unfold rd
  rw [List.getD_eq_getElem?_getD]
  cases hg : a[x.toNat]? with
  | none => rfl
  | some y =>
    have := h y (List.mem_of_getElem? hg)
    exact beq_iff_eq.1 this
theorem loose_free {a : List Int} (h : looseB a = true) (r : List Int) (L : Nat) : allFree a r L = true := by
  unfold allFree
  rw [List.all_eq_true]
  intro p _
  unfold freeS
  rw [List.all_eq_true]
  intro i _
  rw [loose_zero h, bit_zero]
  simp
theorem loose_ext {a : List Int} (hn : a.length ≤ 6) (h : looseB a = true) : (extR a a.length []).length = factN a.length := by
  rw [ext_rows, List.filter_eq_self.2 (fun r _ => loose_free h r _)]
  exact rows_fact ⟨a.length, by omega⟩
/-! ### one thing more -/
theorem free_less {a : List Int} {I J : Nat} (hu : InU a) (hm : mayB a = true) (hI : I < a.length) (hJ : J < a.length) (r : List Int) (hr : r ∈ rowsR a.length a.length) (h : allFree (orAt a I J) r a.length = true) : allFree a r a.length = true := by
  unfold allFree at h ⊢
  rw [List.all_eq_true] at h ⊢
  intro p hp
  have h1 := h p hp
  rw [List.mem_range] at hp
  obtain ⟨r1, r2, r3⟩ := rows_in _ _ r hr
  have hx := r3 _ (rd_mem (l := r) (i := p) (by omega))
  unfold freeS at h1 ⊢
  rw [List.all_eq_true] at h1 ⊢
  intro i hi
  have h2 := h1 i (by rw [or_len]; exact hi)
  rw [List.mem_range] at hi
  rw [or_bitB hu hm hI hJ _ _ ⟨by omega, by omega⟩ hx] at h2
  rw [Bool.or_eq_true] at h2 ⊢
  rcases h2 with h2 | h2
  · exact .inl h2
  · right
    cases hb : bitB (rd a (i : Int)) (rd r (p : Int)).toNat with
    | false => rfl
    | true => rw [hb, Bool.true_or] at h2; cases h2
theorem ext_less {a : List Int} {I J : Nat} (hu : InU a) (hm : mayB a = true) (hI : I < a.length) (hJ : J < a.length) : (extR (orAt a I J) (orAt a I J).length []).length ≤ (extR a a.length []).length := by
  rw [ext_rows, ext_rows, or_len, ← List.countP_eq_length_filter, ← List.countP_eq_length_filter]
  exact List.countP_mono_left (fun r hr h => free_less hu hm hI hJ r hr h)
theorem ExtendRises : recantlaw11_ExtendRises.Pure := by
  intro m0 a1 a2 _ _ hw0 _ _
  obtain ⟨t1, t2, t3⟩ := mn_takex m0 8 (by decide)
  obtain ⟨a, ha⟩ : ∃ l, l = m0.take (mn (m0.length : Int) 8).toNat := ⟨_, rfl⟩
  rw [← ha] at t3 ⊢
  have hu : InU a := fun x hx => wf_u32x (hw0 x (by rw [ha] at hx; exact List.mem_of_mem_take hx))
  have fa : extend_All.f a = some (if mayE a = 0 then extR a a.length [] else [], mayE a) := by unfold extend_All.f; rw [if_pos (show ∀ x ∈ a, 0 ≤ x ∧ x < 4294967296 from hu)]
  refine ⟨_, _, fa, ?_⟩
  by_cases hm : mayE a = 0
  · right
    obtain ⟨hn, hcy⟩ := mayE_zero hm
    have hne : extR a a.length [] ≠ [] := of_decide_eq_false hcy
    have hmb : mayB a = true := by
      unfold mayE at hm
      split at hm
      · assumption
      · omega
    rw [if_pos hm]
    have hlen := ext_len a hn
    have hns := self_none a hne
    have hpw : List.Pairwise lexLt (extR a a.length []) := by rw [ext_rows]; exact List.Pairwise.filter _ (rows_rise _ _)
    refine ⟨hm, List.length_pos_iff.2 hne, by omega, hn, fun p hp => ?_, fun h => loose_ext hn h, ?_⟩
    · have hg : (extR a a.length []).getD p [] = (extR a a.length [])[p] := by
        rw [List.getD_eq_getElem?_getD, List.getElem?_eq_getElem hp]; rfl
      have hmem : (extR a a.length [])[p] ∈ extR a a.length [] := List.getElem_mem _
      obtain ⟨hrr, hfr⟩ := (mem_ext a _).1 hmem
      obtain ⟨r1, r2, r3⟩ := rows_in _ _ _ hrr
      have hk := (keeps_free a _ hns hrr).trans hfr
      rw [keeps_iff] at hk
      constructor
      · rw [hg]; exact r1
      · rw [hg]; exact r3
      · rw [hg]
        obtain ⟨r, hr⟩ : ∃ r, r = (extR a a.length [])[p] := ⟨_, rfl⟩
        rw [← hr] at r1 r2 r3 hk ⊢
        intro j hj
        have hx := r3 _ (rd_mem (l := r) hj)
        have hxa := (may_small hu hmb).2 _ (rd_mem_i hx.1 hx.2)
        have h64 := pow64 hn
        obtain ⟨s0, s1, s2⟩ := seen_bits r (fun x hx => by have := r3 x hx; omega) j (by omega)
        have hk2 := hk j hj
        obtain ⟨x, hxe⟩ := Int.eq_ofNat_of_zero_le hx.1
        rw [hxe] at hx hxa hk2 ⊢
        rw [Int.toNat_natCast]
        obtain ⟨o1, o2⟩ := or_64 hxa.1 (show rd a (x : Int) < 64 by omega) (show x < 6 by omega)
        refine and_none o1 o2 s0 s1 (fun i hi => ?_)
        rw [or_bit hxa.1 (by omega) (by omega) hi, s2 i hi]
        rintro ⟨h1, h2⟩
        obtain ⟨q1, q2⟩ := hk2 (i : Int) (List.contains_iff_mem.1 h2)
        rw [Int.toNat_natCast] at q2
        rw [q2, Bool.false_or, decide_eq_true_eq] at h1
        omega
      · intro hp0
        have hp1 : p - 1 < (extR a a.length []).length := by omega
        have hg1 : (extR a a.length []).getD (p - 1) [] = (extR a a.length [])[p - 1] := by
          rw [List.getD_eq_getElem?_getD, List.getElem?_eq_getElem hp1]; rfl
        rw [hg, hg1]
        have hlex := (List.pairwise_iff_getElem.1 hpw) (p - 1) p hp1 hp (by omega)
        have hmem1 : (extR a a.length [])[p - 1] ∈ extR a a.length [] := List.getElem_mem _
        obtain ⟨u1, u2, u3⟩ := rows_in _ _ _ ((mem_ext a _).1 hmem1).1
        obtain ⟨K, e⟩ := compare_lt _ _ (u1.trans r1.symm) (by omega) _ 0 (Nat.zero_add _) (by rw [List.drop_zero, List.drop_zero]; exact hlex)
        exact ⟨-1, K, e K (Nat.le_refl _), by decide⟩
    · by_cases hn0 : a.length = 0
      · exact .inl hn0
      · right
        obtain ⟨hI0, hI1⟩ := idxM_in a1 a.length (by omega) (by omega)
        obtain ⟨hJ0, hJ1⟩ := idxM_in a2 a.length (by omega) (by omega)
        obtain ⟨I, hI⟩ := Int.eq_ofNat_of_zero_le hI0
        obtain ⟨J, hJ⟩ := Int.eq_ofNat_of_zero_le hJ0
        rw [hI] at hI1 ⊢
        rw [hJ] at hJ1 ⊢
        have hI2 : I < a.length := by omega
        have hJ2 : J < a.length := by omega
        obtain ⟨hub, hmo⟩ := or_u hu hmb hI2 hJ2
        have fc : extend_Count.f (orAt a I J) = some (if mayE (orAt a I J) = 0 then ((extR (orAt a I J) (orAt a I J).length []).length : Int) else 0, mayE (orAt a I J)) := by unfold extend_Count.f; rw [if_pos (show ∀ x ∈ orAt a I J, 0 ≤ x ∧ x < 4294967296 from hub)]
        refine ⟨_, _, fc, ?_⟩
        by_cases hz : mayE (orAt a I J) = 0
        · right
          rw [if_pos hz]
          obtain ⟨_, hcy2⟩ := mayE_zero hz
          have hne2 : extR (orAt a I J) (orAt a I J).length [] ≠ [] := of_decide_eq_false hcy2
          have h1 := List.length_pos_iff.2 hne2
          have h2 := ext_less hu hmb hI2 hJ2
          exact ⟨hz, by omega, by omega⟩
        · left
          unfold mayE at hz ⊢
          rw [if_pos hmo] at hz ⊢
          split
          · rfl
          · rename_i h; rw [if_neg h] at hz; exact absurd rfl hz
  · left
    rw [if_neg hm]
    exact ⟨hm, rfl⟩
end Go.Proofs.Ytimbamimabdmcaa.Pure

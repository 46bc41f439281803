/- The document's bytes, plainly: Right, Is, Print. -/
import Derived.Test.YthkpocgbinmeiaaDoorUNum
import Derived.Test.YthkpocgbinmeiaaDoorUPutZ
import Derived.Test.YthkpocgbinmeiaaDoorGConcat
import Derived.Test.YthkpocgbinmeiaaDoorGRight
import Derived.Test.YthkpocgbinmeiaaDoorGIs
import Derived.Test.YthkpocgbinmeiaaDoorP7
import Derived.Test.YthkpocgbinmeiaaDoorP6
import Derived.Test.YthkpocgbinmeiaaDoorP5
import Derived.Test.YthkpocgbinmeiaaDoorP4
namespace Go.Proofs.YthkpocgbinmeiaaDoor.U
set_option linter.unusedVariables false
set_option linter.unusedSimpArgs false
open Go Go.RowKit Go.Proofs.YthkpocgbinmeiaaDoor.P Go.Proofs.YthkpocgbinmeiaaDoorW.PrintWords Go.Proofs.YthkpocgbinmeiaaDoorW.PrintLast Go.Proofs.YthkpocgbinmeiaaDoorW.PrintMore

theorem phas (l : List Int) (a : Int) (hl : l.length < 1000000) (d : Nat) : ∀ i : Nat, i + d = l.length → Ev (fun k => recantref02_Has.l0 k a l (l.length : Int) (i : Int)) ((l.drop i).contains a) := by
  induction d with
  | zero =>
    intro i hi
    refine ⟨1, fun k hk => ?_⟩
    obtain ⟨k, rfl⟩ : ∃ m, k = m + 1 := ⟨k - 1, by omega⟩
    simp only [recantref02_Has.l0]
    rw [if_neg (by omega), show i = l.length by omega, List.drop_length]; rfl
  | succ d ih =>
    intro i hi
    obtain ⟨K, e⟩ := ih (i + 1) (by omega)
    refine ⟨K + 1, fun k hk => ?_⟩
    obtain ⟨k, rfl⟩ : ∃ m, k = m + 1 := ⟨k - 1, by omega⟩
    simp only [recantref02_Has.l0]
    rw [if_pos (by omega), if_pos (by omega), if_pos (by omega), List.drop_eq_getElem_cons (by omega : i < l.length)]
    have hg : rd l (i : Int) = l[i]'(by omega) := by unfold rd; simp [List.getD_eq_getElem?_getD, List.getElem?_eq_getElem (show i < l.length by omega)]
    rw [hg, List.contains_cons]
    by_cases h : l[i]'(by omega) = a
    · rw [if_pos h, h]; simp
    · rw [if_neg h, w64 (by omega) (by omega), show ((i : Int) + 1) = ((i + 1 : Nat) : Int) by omega]
      have := e k (by omega)
      dsimp only at this
      rw [this]
      congr 1
      have hne : (a == l[i]'(by omega)) = false := by
        rw [beq_eq_false_iff_ne]; exact fun h2 => h h2.symm
      rw [hne, Bool.false_or]
theorem phas_f (l : List Int) (a : Int) (hl : l.length < 1000000) : Ev (fun k => recantref02_Has.f k l a) (l.contains a) := by
  have := phas l a hl l.length 0 (by omega)
  rw [List.drop_zero] at this
  exact this
theorem pnames (evs : List S34) (hl : evs.length ≤ 1000) (d : Nat) : ∀ i : Nat, i + d = evs.length → Ev (fun k => recantref02_Names.l0 k (namesF (evs.take i)) evs (evs.length : Int) (i : Int)) (namesF evs) := by
  induction d with
  | zero =>
    intro i hi
    refine ⟨1, fun k hk => ?_⟩
    obtain ⟨k, rfl⟩ : ∃ m, k = m + 1 := ⟨k - 1, by omega⟩
    simp only [recantref02_Names.l0]
    rw [if_neg (by omega), show i = evs.length by omega, List.take_length]
  | succ d ih =>
    intro i hi
    obtain ⟨K, e⟩ := ih (i + 1) (by omega)
    have hnl := names_len (evs.take i)
    rw [List.length_take] at hnl
    obtain ⟨K2, e2⟩ := phas_f (namesF (evs.take i)) (rd_T34 evs (i : Int)).f1 (by omega)
    refine ⟨max K K2 + 1, fun k hk => ?_⟩
    obtain ⟨k, rfl⟩ : ∃ m, k = m + 1 := ⟨k - 1, by omega⟩
    have e := e k (by omega)
    have e2 := e2 k (by omega)
    rw [take_snocE evs i (by omega), names_snoc] at e
    dsimp only at e e2
    simp only [recantref02_Names.l0]
    rw [if_pos (by omega), if_pos (by omega), if_pos (by omega), e2, Option.bind_some, w64 (by omega) (by omega), show ((i : Int) + 1) = ((i + 1 : Nat) : Int) by omega]
    unfold addN at e
    by_cases hc : (namesF (evs.take i)).contains (rd_T34 evs (i : Int)).f1 = true
    · rw [if_pos hc]
      rw [if_pos hc] at e
      exact e
    · rw [if_neg hc, if_pos (by omega)]
      rw [if_neg hc] at e
      exact e
theorem pnames_f (evs : List S34) (hl : evs.length ≤ 1000) : Ev (fun k => recantref02_Names.f k evs) (namesF evs) := pnames evs hl evs.length 0 (by omega)
theorem pvar (k : Int) : recantref02_Variable.f k = some (varB k) := by
  unfold recantref02_Variable.f varB
  by_cases h : k = 2 <;> simp [h]
theorem pval (k : Int) : recantref02_Value.f k = some (valB k) := by
  unfold recantref02_Value.f valB
  by_cases h : k = 3 <;> simp [h]
theorem inB_iff (n lo hi : Int) : inB n lo hi = true ↔ lo ≤ n ∧ n ≤ hi := by unfold inB; simp
theorem inB_no (n lo hi : Int) (h : ¬ (lo ≤ n ∧ n ≤ hi)) : inB n lo hi = false := by
  rw [Bool.eq_false_iff]; exact fun hc => h ((inB_iff n lo hi).1 hc)
theorem pright (e : S34) : ∀ k, recantref02_right.f (k + 1) e.f0 e.f1 e.f2 e.f3 = some (rightB e) := by
  intro k
  unfold recantref02_right.f rightB
  by_cases h0 : 0 ≤ e.f0 ∧ e.f0 ≤ 9
  · rw [if_neg (by omega), if_neg (by omega), (inB_iff _ _ _).2 h0, Bool.true_and]
    by_cases h1 : 0 ≤ e.f1 ∧ e.f1 ≤ 9999
    · rw [if_neg (by omega), if_neg (by omega), (inB_iff _ _ _).2 h1, Bool.true_and]
      by_cases h2 : 0 ≤ e.f2 ∧ e.f2 ≤ 7
      · rw [if_neg (by omega), if_neg (by omega), (inB_iff _ _ _).2 h2, Bool.true_and]
        have hn : recantref01_Number.f e.f3 = some (inB e.f3 (-2147483648) 2147483647) := by
          unfold recantref01_Number.f inB
          by_cases h : e.f3 ≥ -2147483648
          · rw [if_pos h, decide_eq_true (by omega : -2147483648 ≤ e.f3), Bool.true_and]
          · rw [if_neg h, decide_eq_false (by omega : ¬ -2147483648 ≤ e.f3), Bool.false_and]
        rw [hn, Option.bind_some]
        simp only [recantref02_right.j0]
        rw [pvar, Option.bind_some, pval, Option.bind_some]
        cases hi : inB e.f3 (-2147483648) 2147483647 with
        | false =>
          rw [if_pos (show (!false) = true from rfl)]
          have hne : e.f3 ≠ 0 := by
            intro h
            rw [h] at hi
            exact absurd hi (by decide)
          have : (e.f3 == 0) = false := by simpa using hne
          rw [this]; simp
        | true =>
          rw [if_neg (by simp)]
          cases varB e.f0 <;> cases valB e.f0 <;> by_cases h20 : e.f2 = 0 <;> simp [h20]
      · have h2n : (e.f2 == 0) = false := by rw [beq_eq_false_iff_ne]; omega
        rw [inB_no _ _ _ h2, h2n]
        simp only [recantref02_right.j0]
        by_cases hlt : e.f2 < 0
        · rw [if_pos hlt]; simp
        · rw [if_neg hlt, if_pos (by omega)]; simp
    · rw [inB_no _ _ _ h1]
      simp only [recantref02_right.j0]
      by_cases hlt : e.f1 < 0
      · rw [if_pos hlt]; simp
      · rw [if_neg hlt, if_pos (by omega)]; simp
  · rw [inB_no _ _ _ h0]
    simp only [recantref02_right.j0]
    by_cases hlt : e.f0 < 0
    · rw [if_pos hlt]; simp
    · rw [if_neg hlt, if_pos (by omega)]; simp
theorem drop_consE (l : List S34) (i : Nat) (h : i < l.length) : l.drop i = rd_T34 l (i : Int) :: l.drop (i + 1) := by
  rw [List.drop_eq_getElem_cons h]
  congr 1
  unfold rd_T34; rw [Int.toNat_natCast, List.getD_eq_getElem?_getD, List.getElem?_eq_getElem h]; rfl
theorem prights (l : List S34) (hl : l.length ≤ 1000) (d : Nat) : ∀ i : Nat, i + d = l.length → Ev (fun k => recantref02_Right.l0 k l l (l.length : Int) (i : Int)) (decide (l.length ≤ 60) && ((!(l.drop i).any fun x => !rightB x) && decide ((namesF l).length ≤ 6))) := by
  induction d with
  | zero =>
    intro i hi
    obtain ⟨K, e⟩ := pnames_f l hl
    refine ⟨K + 1, fun k hk => ?_⟩
    obtain ⟨k, rfl⟩ : ∃ m, k = m + 1 := ⟨k - 1, by omega⟩
    have e := e k (by omega)
    dsimp only at e
    simp only [recantref02_Right.l0]
    rw [if_neg (by omega), show i = l.length by omega, List.drop_length]
    by_cases h : l.length ≤ 60
    · rw [if_pos (by omega), e, Option.bind_some, decide_eq_true h]
      simp
      omega
    · rw [if_neg (by omega), decide_eq_false h]; rfl
  | succ d ih =>
    intro i hi
    obtain ⟨K, e⟩ := ih (i + 1) (by omega)
    refine ⟨K + 2, fun k hk => ?_⟩
    obtain ⟨k, rfl⟩ : ∃ m, k = m + 2 := ⟨k - 2, by omega⟩
    have e := e (k + 1) (by omega)
    dsimp only at e
    rw [show k + 2 = (k + 1) + 1 from rfl]
    have hstep : recantref02_Right.l0 ((k + 1) + 1) l l (l.length : Int) (i : Int) = if rightB (rd_T34 l (i : Int)) = true then recantref02_Right.l0 (k + 1) l l (l.length : Int) ((i + 1 : Nat) : Int) else some false := by
      obtain ⟨q, hq⟩ : ∃ q, q = k + 1 := ⟨_, rfl⟩
      have hp := pright (rd_T34 l (i : Int)) k
      rw [← hq] at hp ⊢
      simp only [recantref02_Right.l0]
      rw [if_pos (by omega), if_pos (by omega), if_pos (by omega), hp, Option.bind_some, w64 (by omega) (by omega), show ((i : Int) + 1) = ((i + 1 : Nat) : Int) by omega]
    show recantref02_Right.l0 ((k + 1) + 1) l l (l.length : Int) (i : Int) = _
    rw [hstep, drop_consE l i (by omega), List.any_cons]
    cases hr : rightB (rd_T34 l (i : Int)) with
    | true => rw [if_pos rfl, e]; simp
    | false => rw [if_neg (by simp)]; simp
theorem prights_f (l : List S34) (hl : l.length ≤ 1000) : Ev (fun k => recantref02_Right.f k l) (rightsB l) := by
  have := prights l hl l.length 0 (by omega)
  rw [List.drop_zero] at this
  exact this
theorem pis (l : List Int) (hl : l.length ≤ 1000000) (d : Nat) : ∀ i : Nat, i + d = l.length → Ev (fun k => recantref04_Is.l0 k l (l.length : Int) (i : Int)) (!(l.drop i).any badC) := by
  induction d with
  | zero =>
    intro i hi
    refine ⟨1, fun k hk => ?_⟩
    obtain ⟨k, rfl⟩ : ∃ m, k = m + 1 := ⟨k - 1, by omega⟩
    simp only [recantref04_Is.l0]
    rw [if_neg (by omega), show i = l.length by omega, List.drop_length]; rfl
  | succ d ih =>
    intro i hi
    obtain ⟨K, e⟩ := ih (i + 1) (by omega)
    refine ⟨K + 1, fun k hk => ?_⟩
    obtain ⟨k, rfl⟩ : ∃ m, k = m + 1 := ⟨k - 1, by omega⟩
    have e := e k (by omega)
    dsimp only at e
    simp only [recantref04_Is.l0]
    have hg : rd l (i : Int) = l[i]'(by omega) := by unfold rd; simp [List.getD_eq_getElem?_getD, List.getElem?_eq_getElem (show i < l.length by omega)]
    rw [if_pos (by omega), if_pos (by omega), if_pos (by omega), w64 (by omega) (by omega), show ((i : Int) + 1) = ((i + 1 : Nat) : Int) by omega, e, List.drop_eq_getElem_cons (by omega : i < l.length), List.any_cons, ← hg]
    generalize rd l (i : Int) = c
    unfold badC
    by_cases h9 : c = 9
    · rw [if_pos h9]; simp [h9]
    · rw [if_neg h9]
      by_cases h10 : c = 10
      · rw [if_pos h10]; simp [h10]
      · rw [if_neg h10]
        by_cases h32 : c < 32
        · rw [if_pos h32]; simp [h9, h10, h32]
        · rw [if_neg h32]
          by_cases h126 : c > 126
          · rw [if_pos h126]; simp [h9, h10, h32, (by omega : 126 < c)]
          · rw [if_neg h126]; simp [h9, h10, h32, (by omega : ¬ 126 < c)]
theorem pis_f (l : List Int) (hl : l.length ≤ 1000000) : Ev (fun k => recantref04_Is.f k l) (!l.any badC) := by
  have := pis l hl l.length 0 (by omega)
  rw [List.drop_zero] at this
  exact this
/-- An event's bytes. -/
def bodyL (e : S34) : List Int := (([e.f0 % 256] ++ putN e.f1.toNat) ++ (if varB e.f0 then putN e.f2.toNat else [])) ++ (if valB e.f0 then putN (zigN e.f3).toNat else [])
def printL (acc : List Int) : List S34 → List Int
  | [] => acc
  | e :: t => printL ((acc ++ putN (bodyL e).length) ++ bodyL e) t
theorem put10 (n : Nat) (hn : n < 18446744073709551616) : (putN n).length ≤ 10 := by rw [putN_len]; exact septN_len10 n hn
theorem right_bd {e : S34} (h : rightB e = true) : (0 ≤ e.f0 ∧ e.f0 ≤ 9) ∧ (0 ≤ e.f1 ∧ e.f1 ≤ 9999) ∧ (0 ≤ e.f2 ∧ e.f2 ≤ 7) ∧ (-2147483648 ≤ e.f3 ∧ e.f3 ≤ 2147483647) := by
  unfold rightB at h
  simp only [Bool.and_eq_true, Bool.or_eq_true, inB_iff, beq_iff_eq] at h
  obtain ⟨h0, h1, h2, h3⟩ := h
  exact ⟨h0, h1, by rcases h2 with h | h <;> omega, by rcases h3 with h | h <;> omega⟩
theorem zig_bd (m : Int) (h : -2147483648 ≤ m) (h2 : m ≤ 2147483647) : 0 ≤ zigN m ∧ zigN m < 18446744073709551616 := by unfold zigN; split <;> omega
theorem put_i (n : Int) (h : 0 ≤ n) (h2 : n < 18446744073709551616) : varint_Put.f n = some (putN n.toNat) := by
  have := put_f n.toNat (by omega)
  rwa [Int.toNat_of_nonneg h] at this
theorem refput_i (n : Int) (h : 0 ≤ n) (h2 : n < 18446744073709551616) : Ev (fun k => recantref03_Put.f k n) (putN n.toNat) := by
  have := refput_ev n.toNat (by omega)
  rwa [Int.toNat_of_nonneg h] at this
theorem body_len {e : S34} (h : rightB e = true) : (bodyL e).length ≤ 31 := by
  obtain ⟨h0, h1, h2, h3⟩ := right_bd h
  obtain ⟨z0, z1⟩ := zig_bd e.f3 h3.1 h3.2
  have a1 := put10 e.f1.toNat (by omega)
  have a2 := put10 e.f2.toNat (by omega)
  have a3 := put10 (zigN e.f3).toNat (by omega)
  unfold bodyL
  simp only [List.length_append, List.length_cons, List.length_nil]
  have b2 : (if varB e.f0 = true then putN e.f2.toNat else []).length ≤ 10 := by
    split
    · omega
    · simp
  have b3 : (if valB e.f0 = true then putN (zigN e.f3).toNat else []).length ≤ 10 := by
    split
    · omega
    · simp
  omega
theorem cat3 (a b c : List Int) (h : a.length + b.length + c.length ≤ 140737488355328) : slices_Concat_byte_byte.f [a, b, c] = some ((a ++ b) ++ c) := by
  unfold slices_Concat_byte_byte.f
  have : ([a, b, c] : List (List Int)).flatten = (a ++ b) ++ c := by simp
  rw [this, if_pos (by simp only [List.length_append]; omega)]
/-- Ours. -/
theorem oprint (l : List S34) (hl : l.length ≤ 1000) (hr : ∀ e ∈ l, rightB e = true) (d : Nat) : ∀ (i : Nat) (acc : List Int), i + d = l.length → acc.length ≤ 1000 * (i + 1) → Ev (fun k => binary_Print.l0 k acc l (l.length : Int) (i : Int)) (printL acc (l.drop i), 0) := by
  induction d with
  | zero =>
    intro i acc hi ha
    refine ⟨1, fun k hk => ?_⟩
    obtain ⟨k, rfl⟩ : ∃ m, k = m + 1 := ⟨k - 1, by omega⟩
    simp only [binary_Print.l0]
    rw [if_neg (by omega), show i = l.length by omega, List.drop_length]; rfl
  | succ d ih =>
    intro i acc hi ha
    rw [drop_consE l i (by omega)]
    have hre := hr (rd_T34 l (i : Int)) (by
      have : rd_T34 l (i : Int) ∈ l.drop i := by rw [drop_consE l i (by omega)]; exact List.mem_cons_self
      exact List.mem_of_mem_drop this)
    obtain ⟨e, he⟩ : ∃ e, e = rd_T34 l (i : Int) := ⟨_, rfl⟩
    rw [← he] at hre ⊢
    obtain ⟨h0, h1, h2, h3⟩ := right_bd hre
    obtain ⟨z0, z1⟩ := zig_bd e.f3 h3.1 h3.2
    have a1 := put10 e.f1.toNat (by omega)
    have a2 := put10 e.f2.toNat (by omega)
    have a3 := put10 (zigN e.f3).toNat (by omega)
    have hbl := body_len hre
    have hpl := put10 (bodyL e).length (by omega)
    show Ev _ (printL ((acc ++ putN (bodyL e).length) ++ bodyL e) (l.drop (i + 1)), 0)
    obtain ⟨K, hK⟩ := ih (i + 1) ((acc ++ putN (bodyL e).length) ++ bodyL e) (by omega) (by simp only [List.length_append]; omega)
    refine ⟨K + 2, fun k hk => ?_⟩
    obtain ⟨k, rfl⟩ : ∃ m, k = m + 1 + 1 := ⟨k - 2, by omega⟩
    have e1 := hK k (by omega)
    dsimp only at e1
    have fin : ∀ y : List Int, y.length ≤ 21 → y ++ (if valB e.f0 then putN (zigN e.f3).toNat else []) = bodyL e → binary_Print.j1 (k + 1) acc y l (l.length : Int) (i : Int) e.f0 e.f1 e.f2 e.f3 = some (printL ((acc ++ putN (bodyL e).length) ++ bodyL e) (l.drop (i + 1)), 0) := by
      intro y hy hye
      simp only [binary_Print.j1]
      rw [val_eq, Option.bind_some]
      cases hv : valB e.f0 with
      | true =>
        rw [hv, if_pos rfl] at hye
        rw [if_pos rfl, zig_f e.f3 (by omega) (by omega), Option.bind_some, put_i _ z0 z1, Option.bind_some, if_pos (by omega), Option.bind_some, hye, wu64 (by omega) (by omega), put_f (bodyL e).length (by omega), Option.bind_some, cat3 _ _ _ (by omega), Option.bind_some, w64 (by omega) (by omega), show ((i : Int) + 1) = ((i + 1 : Nat) : Int) by omega]
        exact e1
      | false =>
        rw [hv, if_neg (by simp), List.append_nil] at hye
        rw [if_neg (by simp), hye, wu64 (by omega) (by omega), put_f (bodyL e).length (by omega), Option.bind_some, cat3 _ _ _ (by omega), Option.bind_some, w64 (by omega) (by omega), show ((i : Int) + 1) = ((i + 1 : Nat) : Int) by omega]
        exact e1
    obtain ⟨q, hq⟩ : ∃ q, q = k + 1 := ⟨_, rfl⟩
    rw [← hq] at fin
    show binary_Print.l0 (k + 1 + 1) acc l (l.length : Int) (i : Int) = _
    rw [← hq]
    simp only [binary_Print.l0]
    rw [if_pos (by omega), if_pos (by omega), if_pos (by omega), Option.bind_some, ← he, wu64 (x := e.f1) (by omega) (by omega), put_i e.f1 (by omega) (by omega), Option.bind_some, if_pos (by simp only [List.length_cons, List.length_nil]; omega), Option.bind_some, var_eq, Option.bind_some]
    cases hv : varB e.f0 with
    | true =>
      rw [if_pos rfl, wu64 (x := e.f2) (by omega) (by omega), put_i e.f2 (by omega) (by omega), Option.bind_some, if_pos (by simp only [List.length_append, List.length_cons, List.length_nil]; omega)]
      refine fin _ (by simp only [List.length_append, List.length_cons, List.length_nil]; omega) ?_
      unfold bodyL; rw [hv, if_pos rfl]
    | false =>
      rw [if_neg (by simp)]
      refine fin _ (by simp only [List.length_append, List.length_cons, List.length_nil]; omega) ?_
      unfold bodyL; rw [hv]; simp
theorem oprint_f (l : List S34) (hl : l.length ≤ 1000) (h : rightsB l = true) : Ev (fun k => binary_Print.f k l) (printL (putN l.length) l, 0) := by
  have hr : ∀ e ∈ l, rightB e = true := by
    unfold rightsB at h
    simp only [Bool.and_eq_true, Bool.not_eq_true'] at h
    intro e he
    have := List.any_eq_false.1 h.2.1 e he
    simpa using this
  have hp := put10 l.length (by omega)
  obtain ⟨K, e⟩ := oprint l hl hr l.length 0 (putN l.length) (by omega) (by omega)
  refine ⟨K, fun k hk => ?_⟩
  have e := e k hk
  rw [List.drop_zero] at e
  dsimp only at e ⊢
  unfold binary_Print.f text_Right.f
  rw [Option.bind_some, if_pos h, wu64 (by omega) (by omega), put_f l.length (by omega), Option.bind_some]
  exact e
theorem oprint_no (l : List S34) (h : rightsB l = false) (k : Nat) : binary_Print.f k l = some ([], 1) := by
  unfold binary_Print.f text_Right.f
  rw [Option.bind_some, if_neg (by rw [h]; simp)]
/-- The reference's. -/
theorem rprint (l : List S34) (hl : l.length ≤ 1000) (hr : ∀ e ∈ l, rightB e = true) (d : Nat) : ∀ (i : Nat) (acc : List Int), i + d = l.length → acc.length ≤ 1000 * (i + 1) → Ev (fun k => recantref04_Print.l0 k acc l (l.length : Int) (i : Int)) (printL acc (l.drop i)) := by
  induction d with
  | zero =>
    intro i acc hi ha
    refine ⟨1, fun k hk => ?_⟩
    obtain ⟨k, rfl⟩ : ∃ m, k = m + 1 := ⟨k - 1, by omega⟩
    simp only [recantref04_Print.l0]
    rw [if_neg (by omega), show i = l.length by omega, List.drop_length]; rfl
  | succ d ih =>
    intro i acc hi ha
    rw [drop_consE l i (by omega)]
    have hre := hr (rd_T34 l (i : Int)) (by
      have : rd_T34 l (i : Int) ∈ l.drop i := by rw [drop_consE l i (by omega)]; exact List.mem_cons_self
      exact List.mem_of_mem_drop this)
    obtain ⟨e, he⟩ : ∃ e, e = rd_T34 l (i : Int) := ⟨_, rfl⟩
    rw [← he] at hre ⊢
    obtain ⟨h0, h1, h2, h3⟩ := right_bd hre
    obtain ⟨z0, z1⟩ := zig_bd e.f3 h3.1 h3.2
    have a1 := put10 e.f1.toNat (by omega)
    have a2 := put10 e.f2.toNat (by omega)
    have a3 := put10 (zigN e.f3).toNat (by omega)
    have hbl := body_len hre
    have hpl := put10 (bodyL e).length (by omega)
    show Ev _ (printL ((acc ++ putN (bodyL e).length) ++ bodyL e) (l.drop (i + 1)))
    obtain ⟨K, hK⟩ := ih (i + 1) ((acc ++ putN (bodyL e).length) ++ bodyL e) (by omega) (by simp only [List.length_append]; omega)
    obtain ⟨K1, hK1⟩ := refput_i e.f1 (by omega) (by omega)
    obtain ⟨K2, hK2⟩ := refput_i e.f2 (by omega) (by omega)
    obtain ⟨K3, hK3⟩ := refput_i (zigN e.f3) z0 z1
    obtain ⟨K4, hK4⟩ := refput_ev (bodyL e).length (by omega)
    refine ⟨K + K1 + K2 + K3 + K4 + 2, fun k hk => ?_⟩
    obtain ⟨k, rfl⟩ : ∃ m, k = m + 1 + 1 := ⟨k - 2, by omega⟩
    have e1 := hK k (by omega)
    have p1 := hK1 (k + 1) (by omega)
    have p2 := hK2 (k + 1) (by omega)
    have p3 := hK3 k (by omega)
    have p4 := hK4 k (by omega)
    dsimp only at e1 p1 p2 p3 p4
    have fin : ∀ y : List Int, y.length ≤ 21 → y ++ (if valB e.f0 then putN (zigN e.f3).toNat else []) = bodyL e → recantref04_Print.j1 (k + 1) acc y l (l.length : Int) (i : Int) e.f0 e.f1 e.f2 e.f3 = some (printL ((acc ++ putN (bodyL e).length) ++ bodyL e) (l.drop (i + 1))) := by
      intro y hy hye
      simp only [recantref04_Print.j1]
      rw [pval, Option.bind_some]
      cases hv : valB e.f0 with
      | true =>
        rw [hv, if_pos rfl] at hye
        rw [if_pos rfl, refzig_f e.f3 (by omega) (by omega), Option.bind_some, p3, Option.bind_some, if_pos (by omega), Option.bind_some, hye, wu64 (by omega) (by omega), p4, Option.bind_some, if_pos (by omega), Option.bind_some, if_pos (by simp only [List.length_append]; omega), w64 (by omega) (by omega), show ((i : Int) + 1) = ((i + 1 : Nat) : Int) by omega]
        exact e1
      | false =>
        rw [hv, if_neg (by simp), List.append_nil] at hye
        rw [if_neg (by simp), hye, wu64 (by omega) (by omega), p4, Option.bind_some, if_pos (by omega), Option.bind_some, if_pos (by simp only [List.length_append]; omega), w64 (by omega) (by omega), show ((i : Int) + 1) = ((i + 1 : Nat) : Int) by omega]
        exact e1
    obtain ⟨q, hq⟩ : ∃ q, q = k + 1 := ⟨_, rfl⟩
    rw [← hq] at fin p1 p2
    show recantref04_Print.l0 (k + 1 + 1) acc l (l.length : Int) (i : Int) = _
    rw [← hq]
    simp only [recantref04_Print.l0]
    rw [if_pos (by omega), if_pos (by omega), if_pos (by omega), Option.bind_some, ← he, wu64 (x := e.f1) (by omega) (by omega), p1, Option.bind_some, if_pos (by simp only [List.length_cons, List.length_nil]; omega), Option.bind_some, pvar, Option.bind_some]
    cases hv : varB e.f0 with
    | true =>
      rw [if_pos rfl, wu64 (x := e.f2) (by omega) (by omega), p2, Option.bind_some, if_pos (by simp only [List.length_append, List.length_cons, List.length_nil]; omega)]
      refine fin _ (by simp only [List.length_append, List.length_cons, List.length_nil]; omega) ?_
      unfold bodyL; rw [hv, if_pos rfl]
    | false =>
      rw [if_neg (by simp)]
      refine fin _ (by simp only [List.length_append, List.length_cons, List.length_nil]; omega) ?_
      unfold bodyL; rw [hv]; simp
theorem rprint_f (l : List S34) (hl : l.length ≤ 1000) (h : rightsB l = true) : Ev (fun k => recantref04_Print.f k l) (printL (putN l.length) l) := by
  have hr : ∀ e ∈ l, rightB e = true := by
    unfold rightsB at h
    simp only [Bool.and_eq_true, Bool.not_eq_true'] at h
    intro e he
    have := List.any_eq_false.1 h.2.1 e he
    simpa using this
  have hp := put10 l.length (by omega)
  obtain ⟨K, e⟩ := rprint l hl hr l.length 0 (putN l.length) (by omega) (by omega)
  obtain ⟨K2, e2⟩ := refput_ev l.length (by omega)
  refine ⟨max K K2, fun k hk => ?_⟩
  have e := e k (by omega)
  have e2 := e2 k (by omega)
  rw [List.drop_zero] at e
  dsimp only at e e2 ⊢
  unfold recantref04_Print.f
  rw [wu64 (by omega) (by omega), e2, Option.bind_some]
  exact e
theorem print_len (l : List S34) (hr : ∀ e ∈ l, rightB e = true) : ∀ acc : List Int, (printL acc l).length ≤ acc.length + 41 * l.length := by
  induction l with
  | nil => intro acc; exact Nat.le_refl _
  | cons e t ih =>
    intro acc
    have h1 := ih (fun x hx => hr x (List.mem_cons_of_mem _ hx)) ((acc ++ putN (bodyL e).length) ++ bodyL e)
    have hb := body_len (hr e List.mem_cons_self)
    have hp := put10 (bodyL e).length (by omega)
    simp only [List.length_append] at h1
    show (printL ((acc ++ putN (bodyL e).length) ++ bodyL e) t).length ≤ _
    rw [List.length_cons]; omega
end Go.Proofs.YthkpocgbinmeiaaDoor.U

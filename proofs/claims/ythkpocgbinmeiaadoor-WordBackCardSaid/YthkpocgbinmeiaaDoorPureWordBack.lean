/- Proved: what is written is read; what is read is written; words stand where they are told, rise, and have no blank. Conditions: the library's tables lie in memory as its text lays them (the card ties that to the text). -/
import Derived.Test.YthkpocgbinmeiaaDoorUWordB
import Derived.Test.YthkpocgbinmeiaaDoorP3
namespace Go.Proofs.YthkpocgbinmeiaaDoor.Pure
set_option linter.unusedVariables false
set_option linter.unusedSimpArgs false
open Go Go.RowKit Go.Proofs.YthkpocgbinmeiaaDoor.P Go.Proofs.YthkpocgbinmeiaaDoorW.PrintWords Go.Proofs.YthkpocgbinmeiaaDoorW.PrintLast Go.Proofs.YthkpocgbinmeiaaDoorW.PrintMore Go.Proofs.YthkpocgbinmeiaaDoor.U

theorem alive01 : Ev (fun k => recantlaw01_alive.f k) true := Ev.of recantlaw01_alive.mono (k := 60) (by decide +kernel)
/-- The words, one by one. -/
theorem words_run (s : ByteArray) (hs : s.size ≤ 400) (d : Nat) : ∀ (i : Nat) (e : Int), i + d = (wordsOf s).length → Rise e ((wordsOf s).drop i) →
    Ev (fun k => recantlaw01_WordBack.l0 k s ((wordsOf s).map (fun p => (p.1 : Int))) e ((wordsOf s).map (fun p => (cutHash s).1.extract p.1 p.2)) ((((wordsOf s).map (fun p => (cutHash s).1.extract p.1 p.2)).length : Nat) : Int) (i : Int)) true := by
  induction d with
  | zero =>
    intro i e hi hr
    refine ⟨1, fun k hk => ?_⟩
    obtain ⟨k, rfl⟩ : ∃ m, k = m + 1 := ⟨k - 1, by omega⟩
    simp only [recantlaw01_WordBack.l0]
    rw [if_neg (by rw [List.length_map]; omega)]
  | succ d ih =>
    intro i e hi hr
    have hlt : i < (wordsOf s).length := by omega
    obtain ⟨p, hp⟩ : ∃ p, (wordsOf s)[i] = p := ⟨_, rfl⟩
    have hmem : p ∈ wordsOf s := by rw [← hp]; exact List.getElem_mem hlt
    rw [List.drop_eq_getElem_cons hlt, hp] at hr
    obtain ⟨K, hK⟩ := ih (i + 1) (p.2 : Int) (by omega) hr.2
    obtain ⟨h1, h2, h3⟩ := word_size s p hmem
    have hl := words_len s
    refine ⟨K + 1, fun k hk => ?_⟩
    obtain ⟨k, rfl⟩ : ∃ m, k = m + 1 := ⟨k - 1, by omega⟩
    have hk' := hK k (by omega)
    dsimp only at hk'
    simp only [recantlaw01_WordBack.l0]
    have hrd : rd ((wordsOf s).map (fun p => (p.1 : Int))) (i : Int) = (p.1 : Int) := by
      unfold rd
      rw [Int.toNat_natCast, List.getD_eq_getElem?_getD, List.getElem?_map, List.getElem?_eq_getElem hlt, hp]
      rfl
    have hro : rdOf ByteArray.empty ((wordsOf s).map (fun p => (cutHash s).1.extract p.1 p.2)) (i : Int) = (cutHash s).1.extract p.1 p.2 := by
      unfold rdOf
      rw [Int.toNat_natCast, List.getD_eq_getElem?_getD, List.getElem?_map, List.getElem?_eq_getElem hlt, hp]
      rfl
    have hmn : mn (p.1 : Int) (s.size : Int) = (p.1 : Int) := by unfold mn; rw [if_neg (by omega)]
    have hne : ¬ ((cutHash s).1.extract p.1 p.2).toList = ([] : List UInt8) := by
      intro h
      rw [Lib.toList_data] at h
      have h4 := Lib.size_eq ((cutHash s).1.extract p.1 p.2)
      rw [h, List.length_nil] at h4
      omega
    have hany : strings_ContainsAny.f ((cutHash s).1.extract p.1 p.2) (⟨#[32, 9, 35]⟩ : ByteArray) = some false := by
      unfold strings_ContainsAny.f
      rw [if_pos ⟨rfl, by omega, word_free s p hmem⟩]
    have hr1 := hr.1
    rw [hrd, hro, hmn, if_pos (by rw [List.length_map]; omega), if_pos (by omega), if_pos (by rw [List.length_map]; omega), if_pos (by rw [List.length_map]; omega), if_neg (by omega), if_pos (by omega), if_pos (by omega), Int.toNat_natCast, word_prefix s p hmem, Option.bind_some, if_pos rfl, if_neg hne, hany, Option.bind_some, if_neg Bool.false_ne_true, h3, w64 (by omega) (by omega), w64 (by omega) (by omega), show (p.1 : Int) + ((p.2 - p.1 : Nat) : Int) = (p.2 : Int) by omega, show ((i : Int) + 1) = ((i + 1 : Nat) : Int) by omega]
    exact hk'
theorem WordBack : recantlaw01_WordBack.Pure := by
  intro s n _ hw
  have hmn : (mn (s.size : Int) 400).toNat ≤ 400 ∧ 0 ≤ mn (s.size : Int) 400 ∧ mn (s.size : Int) 400 ≤ s.size := by unfold mn; split <;> omega
  obtain ⟨b, hb⟩ : ∃ b, b = s.extract 0 (mn (s.size : Int) 400).toNat := ⟨_, rfl⟩
  have hbl : b.size ≤ 400 := by rw [hb, ByteArray.size_extract]; omega
  have hi : ∀ t : ByteArray, t.size ≤ 100000 → word_Int.f t = some (intVal (restOf t).data.toList (minusOf t)) := fun t h => by unfold word_Int.f; rw [if_pos (by omega)]
  have htext : ∀ m : Int, -2147483648 ≤ m → m ≤ 2147483647 → word_Text.f m = some (⟨(Lib.itoa m).toArray⟩, 0) := by
    intro m h0 h1
    unfold word_Text.f strconv_Itoa.f
    rw [if_neg (by omega), if_neg (by omega), if_pos (by omega), Option.bind_some]
  -- the words
  have hj1 : Ev (fun k => recantlaw01_WordBack.j1 k b) true := by
    obtain ⟨K1, e1⟩ := words_ev b (by omega)
    obtain ⟨K2, e2⟩ := alive01
    obtain ⟨K3, e3⟩ := words_run b hbl (wordsOf b).length 0 (-1) (by omega) (by
      rw [List.drop_zero]
      exact wi_rise _ 0 0 (-1) (Nat.le_refl _) (by decide))
    refine ⟨max K1 (max K2 K3) + 2, fun k hk => ?_⟩
    obtain ⟨k, rfl⟩ : ∃ m, k = m + 1 + 1 := ⟨k - 2, by omega⟩
    have e1 := e1 (k + 1) (by omega)
    have e2 := e2 (k + 1) (by omega)
    have e3 := e3 k (by omega)
    dsimp only at e1 e2 e3
    simp only [recantlaw01_WordBack.j1]
    rw [e1, Option.bind_some, if_pos (by rw [List.length_map, List.length_map]), e2, Option.bind_some]
    simp only [recantlaw01_WordBack.j2]
    rw [if_neg (by simp)]
    exact e3
  have hj0 : Ev (fun k => recantlaw01_WordBack.j0 k b) true := by
    obtain ⟨K1, e1⟩ := hj1
    refine ⟨K1 + 1, fun k hk => ?_⟩
    obtain ⟨k, rfl⟩ : ∃ m, k = m + 1 := ⟨k - 1, by omega⟩
    have e1 := e1 k (by omega)
    dsimp only at e1
    simp only [recantlaw01_WordBack.j0]
    rw [hi b (by omega), Option.bind_some]
    by_cases h0 : (intVal (restOf b).data.toList (minusOf b)).2 = 0
    · rw [if_pos h0]
      obtain ⟨t1, t2, t3⟩ := text_int b (intVal (restOf b).data.toList (minusOf b)).1 (Prod.ext rfl h0)
      rw [htext _ t1 t2, Option.bind_some, if_pos rfl, if_pos (by rw [Lib.toList_data, Lib.toList_data, t3])]
      exact e1
    · rw [if_neg h0]
      exact e1
  obtain ⟨K, e⟩ := hj0
  refine ⟨K, ?_⟩
  have e := e K (Nat.le_refl _)
  dsimp only at e
  unfold recantlaw01_WordBack.f
  rw [if_pos hmn.2.1, if_pos hmn.2.2, ← hb]
  by_cases hlo : n < -2147483648
  · have ht : word_Text.f n = some (⟨#[]⟩, 1) := by unfold word_Text.f; rw [if_pos hlo]
    rw [ht, Option.bind_some, if_neg (by decide)]
    exact e
  · by_cases hhi : n > 2147483647
    · have ht : word_Text.f n = some (⟨#[]⟩, 1) := by unfold word_Text.f; rw [if_neg hlo, if_pos hhi]
      rw [ht, Option.bind_some, if_neg (by decide)]
      exact e
    · have hsz : (⟨(Lib.itoa n).toArray⟩ : ByteArray).size ≤ 100000 := by
        have h1 : (⟨(Lib.itoa n).toArray⟩ : ByteArray).size = (Lib.itoa n).length := by rw [Lib.size_eq]
        rw [h1]
        by_cases hn : 0 ≤ n
        · obtain ⟨u, rfl⟩ := Int.eq_ofNat_of_zero_le hn
          rw [Lib.itoa_nonneg, Lib.decDigits_length]
          have := Lib.nDigits_le20 u (by omega)
          omega
        · obtain ⟨u, hu⟩ : ∃ u : Nat, n = -(u : Int) := ⟨(-n).toNat, by omega⟩
          subst hu
          rw [Lib.itoa_neg u (by omega), List.length_cons, Lib.decDigits_length]
          have := Lib.nDigits_le20 u (by omega)
          omega
      rw [htext n (by omega) (by omega), Option.bind_some, if_pos rfl, hi _ hsz, int_itoa n (by omega) (by omega), Option.bind_some, if_pos rfl, if_pos rfl]
      exact e
end Go.Proofs.YthkpocgbinmeiaaDoor.Pure

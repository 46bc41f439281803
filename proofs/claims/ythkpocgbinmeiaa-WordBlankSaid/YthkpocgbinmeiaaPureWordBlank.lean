/- Proved: a blank ahead of a line moves its words by one, one behind it moves none. No condition. -/
import Derived.Test.YthkpocgbinmeiaaP9
import Derived.Test.YthkpocgbinmeiaaUWord
namespace Go.Proofs.Ythkpocgbinmeiaa.Pure
set_option linter.unusedVariables false
set_option linter.unusedSimpArgs false
open Go.RowKit Go.Proofs.Ythkpocgbinmeiaa.P Go.Proofs.YthkpocgbinmeiaaW.PrintWords Go.Proofs.YthkpocgbinmeiaaW.PrintLast Go.Proofs.YthkpocgbinmeiaaW.PrintMore Go.Proofs.Ythkpocgbinmeiaa.U

theorem ahead_words (s : ByteArray) : wordsOf ((⟨#[32]⟩ : ByteArray) ++ s) = (wordsOf s).map fun p => (p.1 + 1, p.2 + 1) := by
  unfold wordsOf
  have h : ((⟨#[32]⟩ : ByteArray) ++ s).data.toList = 32 :: s.data.toList := by simp [ByteArray.data_append]
  rw [h]
  have hu : upto (32 :: s.data.toList) = 32 :: upto s.data.toList := by simp [upto]
  rw [hu]
  have hw : wi 0 0 (32 :: upto s.data.toList) = wi (0 + 1) (0 + 1) (upto s.data.toList) := by simp [wi, show U.blank 32 = true from rfl]
  rw [hw, wi_shift]
theorem upto_end (l : List UInt8) : upto (l ++ [9]) = upto l ∨ (upto (l ++ [9]) = upto l ++ [9]) := by
  induction l with
  | nil => right; simp [upto]
  | cons c t ih =>
    by_cases h : c = 35
    · left; simp [upto, h]
    · have h1 : ∀ x, upto (c :: x) = c :: upto x := fun x => by simp [upto, h]
      rw [List.cons_append, h1, h1]
      rcases ih with h2 | h2
      · left; rw [h2]
      · right; rw [h2]; rfl
theorem behind_words (s : ByteArray) : wordsOf (s ++ (⟨#[9]⟩ : ByteArray)) = wordsOf s := by
  unfold wordsOf
  have h : (s ++ (⟨#[9]⟩ : ByteArray)).data.toList = s.data.toList ++ [9] := by simp [ByteArray.data_append]
  rw [h]
  rcases upto_end s.data.toList with h2 | h2
  · rw [h2]
  · rw [h2, wi_end]
theorem blank_loop (a b : List Int) (h : b = a.map (fun x => x + 1)) (hx : ∀ x ∈ a, 0 ≤ x ∧ x ≤ 1000000) (hm : a.length < 1000000) (d : Nat) : ∀ i : Nat, i + d = a.length → Ev (fun k => recantlaw01_WordBlank.l0 k a b (b.length : Int) (i : Int)) true := by
  have hl : b.length = a.length := by rw [h]; simp
  induction d with
  | zero =>
    intro i hi
    refine ⟨1, fun k hk => ?_⟩
    obtain ⟨k, rfl⟩ : ∃ m, k = m + 1 := ⟨k - 1, by omega⟩
    simp only [recantlaw01_WordBlank.l0]
    rw [if_neg (by omega)]
  | succ d ih =>
    intro i hi
    obtain ⟨K, e⟩ := ih (i + 1) (by omega)
    refine ⟨K + 1, fun k hk => ?_⟩
    obtain ⟨k, rfl⟩ : ∃ m, k = m + 1 := ⟨k - 1, by omega⟩
    have ra : rd a (i : Int) = a[i]'(by omega) := by unfold rd; simp [List.getD_eq_getElem?_getD, List.getElem?_eq_getElem (show i < a.length by omega)]
    have rb : rd b (i : Int) = a[i]'(by omega) + 1 := by
      have this : b[i]? = some (a[i]'(by omega) + 1) := by
        have ia : i < a.length := by omega
        refine (congrArg (fun l : List Int => l[i]?) h).trans ?_
        show (a.map (fun x => x + 1))[i]? = _
        rw [List.getElem?_map, List.getElem?_eq_getElem ia]; rfl
      unfold rd; rw [List.getD_eq_getElem?_getD, Int.toNat_natCast, this]; rfl
    have hb := hx _ (List.getElem_mem (l := a) (n := i) (by omega))
    simp only [recantlaw01_WordBlank.l0]
    rw [if_pos (by omega), if_pos (by omega), if_pos (by omega), if_pos (by omega), ra, rb, if_pos (by rw [w64 (by omega) (by omega)]), w64 (x := (i : Int) + 1) (by omega) (by omega), show ((i : Int) + 1) = ((i + 1 : Nat) : Int) by omega]
    exact e k (by omega)
theorem blank_j0 (a b : List Int) (h : b = a.map (fun x => x + 1)) (hx : ∀ x ∈ a, 0 ≤ x ∧ x ≤ 1000000) (hm : a.length < 1000000) : Ev (fun k => recantlaw01_WordBlank.j0 k a b false) true := by
  obtain ⟨K, e⟩ := blank_loop a b h hx hm a.length 0 (by omega)
  refine ⟨K + 1, fun k hk => ?_⟩
  obtain ⟨k, rfl⟩ : ∃ m, k = m + 1 := ⟨k - 1, by omega⟩
  simp only [recantlaw01_WordBlank.j0]
  rw [if_neg (by simp)]
  exact e k (by omega)
theorem WordBlank : recantlaw01_WordBlank.Pure := by
  intro s0 _
  have hmn : (mn (s0.size : Int) 400).toNat ≤ 400 ∧ 0 ≤ mn (s0.size : Int) 400 ∧ mn (s0.size : Int) 400 ≤ s0.size := by unfold mn; split <;> omega
  obtain ⟨s, hs⟩ : ∃ s, s = s0.extract 0 (mn (s0.size : Int) 400).toNat := ⟨_, rfl⟩
  have hl : s.size ≤ 400 := by rw [hs]; simp; omega
  have h1 : ((⟨#[32]⟩ : ByteArray) ++ s).size = 1 + s.size := by rw [ByteArray.size_append]; rfl
  have h2 : (s ++ (⟨#[9]⟩ : ByteArray)).size = s.size + 1 := by rw [ByteArray.size_append]; rfl
  have hwl := words_len s
  obtain ⟨K1, e1⟩ := words_ev s (by omega)
  obtain ⟨K2, e2⟩ := words_ev ((⟨#[32]⟩ : ByteArray) ++ s) (by omega)
  obtain ⟨K3, e3⟩ := words_ev (s ++ (⟨#[9]⟩ : ByteArray)) (by omega)
  have ha := ahead_words s
  have hb := behind_words s
  have da : ((⟨#[32]⟩ : ByteArray) ++ s).data.toList = 32 :: s.data.toList := by simp [ByteArray.data_append]
  have db : (s ++ (⟨#[9]⟩ : ByteArray)).data.toList = s.data.toList ++ [9] := by simp [ByteArray.data_append]
  obtain ⟨K4, e4⟩ := texts_ev ((wordsOf s).map (fun p => (cutHash s).1.extract p.1 p.2)) ((wordsOf ((⟨#[32]⟩ : ByteArray) ++ s)).map (fun p => (cutHash ((⟨#[32]⟩ : ByteArray) ++ s)).1.extract p.1 p.2)) (by
    rw [ha, List.map_map, List.map_map, List.map_map]
    refine List.map_congr_left (fun p hp => ?_)
    simp only [Function.comp]
    rw [word_same s p hp, word_same _ (p.1 + 1, p.2 + 1) (by rw [ha]; exact List.mem_map.2 ⟨p, hp, rfl⟩), Lib.extract_toList, Lib.extract_toList, da]
    simp) (by simp; omega)
  obtain ⟨K5, e5⟩ := texts_ev ((wordsOf s).map (fun p => (cutHash s).1.extract p.1 p.2)) ((wordsOf (s ++ (⟨#[9]⟩ : ByteArray))).map (fun p => (cutHash (s ++ (⟨#[9]⟩ : ByteArray))).1.extract p.1 p.2)) (by
    rw [hb, List.map_map, List.map_map]
    refine List.map_congr_left (fun p hp => ?_)
    simp only [Function.comp]
    have hin := wi_in _ 0 0 (Nat.le_refl _) p hp
    have hul : (upto s.data.toList).length ≤ s.data.toList.length := (List.takeWhile_sublist _).length_le
    have hz : s.data.toList.length = s.size := (Lib.size_eq s).symm
    rw [word_same s p hp, word_same _ p (by rw [hb]; exact hp), Lib.extract_toList, Lib.extract_toList, db]
    rw [List.drop_append_of_le_length (by omega), List.take_append_of_le_length (by simp; omega)]) (by simp; omega)
  obtain ⟨K6, e6⟩ := ints_ev ((wordsOf s).map (fun p => (p.1 : Int))) (by simp; omega)
  obtain ⟨K7, e7⟩ := alive01
  obtain ⟨K8, e8⟩ := blank_j0 ((wordsOf s).map (fun p => (p.1 : Int))) ((wordsOf ((⟨#[32]⟩ : ByteArray) ++ s)).map (fun p => (p.1 : Int))) (by
    rw [ha, List.map_map, List.map_map]; exact List.map_congr_left (fun p _ => by simp)) (by
    intro x hx
    obtain ⟨p, hp, rfl⟩ := List.mem_map.1 hx
    have hin := wi_in _ 0 0 (Nat.le_refl _) p hp
    have hul : (upto s.data.toList).length ≤ s.data.toList.length := (List.takeWhile_sublist _).length_le
    rw [← Lib.size_eq] at hul
    omega) (by simp; omega)
  rw [hb] at e3 e5
  dsimp only at e1 e2 e3 e4 e5 e6 e7 e8
  refine ⟨max K1 (max K2 (max K3 (max K4 (max K5 (max K6 (max K7 K8)))))), ?_⟩
  simp only [recantlaw01_WordBlank.f]
  rw [if_pos hmn.2.1, if_pos hmn.2.2, ← hs, e1 _ (by omega), Option.bind_some, if_pos (by omega), e2 _ (by omega), Option.bind_some, if_pos (by omega), e3 _ (by omega), Option.bind_some]
  dsimp only
  rw [e4 _ (by omega), Option.bind_some, if_pos rfl, e5 _ (by omega), Option.bind_some, if_pos rfl, e6 _ (by omega), Option.bind_some, if_pos rfl, if_pos (by rw [ha]; simp), e7 _ (by omega), Option.bind_some]
  exact e8 _ (by omega)

end Go.Proofs.Ythkpocgbinmeiaa.Pure

/- Plain lemmas: a text that is a number is that number's text; words rise and have no blank. -/
import Derived.Test.YthkpocgbinmeiaaDoorUDigits
import Derived.Test.YthkpocgbinmeiaaDoorUWordD
import Derived.Test.YthkpocgbinmeiaaDoorGAny
import Derived.Test.YthkpocgbinmeiaaDoorP2
namespace Go.Proofs.YthkpocgbinmeiaaDoor.U
set_option linter.unusedVariables false
set_option linter.unusedSimpArgs false
open Go Go.RowKit Go.Proofs.YthkpocgbinmeiaaDoor.P Go.Proofs.YthkpocgbinmeiaaDoorW.PrintWords Go.Proofs.YthkpocgbinmeiaaDoorW.PrintLast Go.Proofs.YthkpocgbinmeiaaDoorW.PrintMore

theorem dec_lv (n : Nat) : ∀ l : List UInt8, l.length = n + 1 → l.all digB = true → (l.head? ≠ some 48 ∨ n = 0) → Lib.decDigits (lv l).toNat = l := by
  induction n with
  | zero =>
    intro l hl ha _
    match l, hl with
    | [c], _ =>
      rw [List.all_cons, List.all_nil, Bool.and_true, digB_iff] at ha
      have hlv : lv [c] = (c.toNat : Int) - 48 := by unfold lv lvF; simp
      rw [hlv, show ((c.toNat : Int) - 48).toNat = c.toNat - 48 by omega, Lib.decDigits_one (by omega)]
      have : 48 + (c.toNat - 48) = c.toNat := by omega
      rw [this]
      simp
  | succ n ih =>
    intro l hl ha hh
    have hne : l ≠ [] := by intro h; rw [h] at hl; simp at hl
    obtain ⟨l', c, rfl⟩ : ∃ l' c, l = l' ++ [c] := ⟨l.dropLast, l.getLast hne, (List.dropLast_concat_getLast hne).symm⟩
    have hl' : l'.length = n + 1 := by simpa using hl
    rw [List.all_append, Bool.and_eq_true, List.all_cons, List.all_nil, Bool.and_true, digB_iff] at ha
    have hh' : l'.head? ≠ some 48 := by
      rcases hh with h | h
      · cases l' with
        | nil => simp at hl'
        | cons b t => simpa using h
      · omega
    have e := ih l' hl' ha.1 (.inl hh')
    have hpos : 1 ≤ lv l' := by
      cases l' with
      | nil => simp at hl'
      | cons b t =>
        have := lv_big b t ha.1 (fun h => hh' (by rw [h]; rfl))
        have := pow_pos10 t.length
        omega
    obtain ⟨u, hu⟩ : ∃ u : Nat, lv l' = (u : Int) := ⟨(lv l').toNat, by omega⟩
    rw [hu] at e hpos
    rw [lv_snoc, hu]
    have ht : (10 * (u : Int) + ((c.toNat : Int) - 48)).toNat = 10 * u + (c.toNat - 48) := by omega
    rw [ht, dec_step _ (by omega), show (10 * u + (c.toNat - 48)) / 10 = u by omega, show (10 * u + (c.toNat - 48)) % 10 = c.toNat - 48 by omega]
    have e' : Lib.decDigits u = l' := by simpa using e
    rw [e', show 48 + (c.toNat - 48) = c.toNat by omega]
    simp
theorem minus_split (s : ByteArray) (h : minusOf s = true) : s.data.toList = 45 :: (restOf s).data.toList := by
  unfold restOf
  rw [if_pos h, Lib.extract_data]
  unfold minusOf at h
  cases hs : s.data.toList with
  | nil => rw [hs] at h; simp at h
  | cons b t =>
    rw [hs] at h
    have hb : b = 45 := by simpa using h
    have hz : s.size = t.length + 1 := by rw [Lib.size_eq, hs]; rfl
    rw [hz]
    subst hb
    simp
/-- A text that is read as a number is that number's text. -/
theorem text_int (s : ByteArray) (n : Int) (h : intVal (restOf s).data.toList (minusOf s) = (n, 0)) : -2147483648 ≤ n ∧ n ≤ 2147483647 ∧ Lib.itoa n = s.data.toList := by
  obtain ⟨l, hl⟩ : ∃ l, l = (restOf s).data.toList := ⟨_, rfl⟩
  obtain ⟨m, hm⟩ : ∃ m, m = minusOf s := ⟨_, rfl⟩
  rw [← hl, ← hm] at h
  unfold intVal at h
  by_cases h1 : l = [] ∨ (l.head? = some 48 ∧ (m = true ∨ 1 < l.length))
  · rw [if_pos h1] at h; exact absurd (Prod.mk.inj h).2 (by decide)
  rw [if_neg h1] at h
  by_cases h2 : l.all digB = true
  case neg => rw [if_neg h2] at h; exact absurd (Prod.mk.inj h).2 (by decide)
  rw [if_pos h2] at h
  by_cases h3 : (intFold l).2 = true ∨ (if m = true then -(intFold l).1 else (intFold l).1) < -2147483648 ∨ (if m = true then -(intFold l).1 else (intFold l).1) > 2147483647
  · rw [if_pos h3] at h; exact absurd (Prod.mk.inj h).2 (by decide)
  rw [if_neg h3] at h
  have hn := (Prod.mk.inj h).1
  have hne : l ≠ [] := fun e => h1 (.inl e)
  have hhead : l.head? ≠ some 48 ∨ l.length - 1 = 0 := by
    by_cases hh : l.head? = some 48
    · right
      rcases Nat.lt_or_ge 1 l.length with h4 | h4
      · exact absurd (.inr ⟨hh, .inr h4⟩) h1
      · omega
    · exact .inl hh
  have hlen := List.length_pos_iff.2 hne
  have hd := dec_lv (l.length - 1) l (by omega) h2 hhead
  have hf : intFold l = (lv l, false) := by
    rcases fold_lv l h2 with e | e
    · exact e
    · exact absurd (.inl e.1) h3
  rw [hf] at h3 hn
  dsimp only at h3 hn
  have hb := lv_bd l h2
  rw [hn] at h3
  refine ⟨by omega, by omega, ?_⟩
  obtain ⟨u, hu⟩ : ∃ u : Nat, lv l = (u : Int) := ⟨(lv l).toNat, by omega⟩
  rw [hu] at hd hn
  have hd' : Lib.decDigits u = l := by simpa using hd
  cases hmm : m with
  | false =>
    rw [hmm, if_neg Bool.false_ne_true] at hn
    rw [← hn, Lib.itoa_nonneg, hd', hl]
    unfold restOf
    rw [← hm, hmm, if_neg Bool.false_ne_true]
  | true =>
    rw [hmm, if_pos rfl] at hn
    have hu1 : 1 ≤ u := by
      cases l with
      | nil => exact absurd rfl hne
      | cons b t =>
        have := lv_big b t h2 (fun h => h1 (.inr ⟨by rw [h]; rfl, .inl hmm⟩))
        have := pow_pos10 t.length
        omega
    rw [← hn, Lib.itoa_neg u hu1, hd', minus_split s (by rw [← hm, hmm]), hl]
/-- Places rise; there is one between, at least. -/
def Rise (e : Int) : List (Nat × Nat) → Prop
  | [] => True
  | p :: t => e < (p.1 : Int) ∧ Rise (p.2 : Int) t
theorem wi_rise (l : List UInt8) : ∀ (f pos : Nat) (e : Int), f ≤ pos → e < (f : Int) → Rise e (wi f pos l) := by
  induction l with
  | nil =>
    intro f pos e hf he
    simp only [wi]
    split
    · exact ⟨he, trivial⟩
    · trivial
  | cons c t ih =>
    intro f pos e hf he
    simp only [wi]
    split
    · split
      · exact ⟨he, ih _ _ _ (Nat.le_refl _) (by dsimp only; omega)⟩
      · exact ih _ _ _ (Nat.le_refl _) (by omega)
    · exact ih _ _ _ (by omega) he
theorem wi_free (L t : List UInt8) : ∀ f pos, L.drop pos = t → f ≤ pos → (∀ j x, f ≤ j → j < pos → L[j]? = some x → blank x = false) → ∀ p ∈ wi f pos t, ∀ j x, p.1 ≤ j → j < p.2 → L[j]? = some x → blank x = false := by
  induction t with
  | nil =>
    intro f pos hd hf hw p hp
    simp only [wi] at hp
    split at hp
    · simp at hp; subst hp; exact hw
    · simp at hp
  | cons c t ih =>
    intro f pos hd hf hw p hp
    have hd' : L.drop (pos + 1) = t := by
      have := congrArg List.tail hd
      simpa [List.tail_drop] using this
    have hc : L[pos]? = some c := by
      have := congrArg List.head? hd
      simpa [List.head?_drop] using this
    simp only [wi] at hp
    split at hp
    · rcases List.mem_append.1 hp with hp | hp
      · split at hp
        · simp at hp; subst hp; exact hw
        · simp at hp
      · exact ih _ _ hd' (Nat.le_refl _) (fun j x h1 h2 => by omega) p hp
    · rename_i hb
      refine ih _ _ hd' (by omega) (fun j x h1 h2 hx => ?_) p hp
      by_cases hj : j < pos
      · exact hw j x h1 hj hx
      · obtain rfl : j = pos := by omega
        rw [hc] at hx
        cases hx
        simpa using hb
/-- A word has no blank, and no byte 35. -/
theorem word_free (s : ByteArray) (p : Nat × Nat) (hp : p ∈ wordsOf s) : noneB ((cutHash s).1.extract p.1 p.2).data.toList = true := by
  have h1 := wi_free (upto s.data.toList) _ 0 0 rfl (Nat.le_refl _) (fun j x h1 h2 => by omega) p hp
  rw [Lib.extract_data, cutHash_bytes]
  unfold noneB
  rw [List.all_eq_true]
  intro x hx
  obtain ⟨k, hk⟩ := List.mem_iff_getElem?.1 hx
  rw [List.getElem?_take] at hk
  split at hk
  · rename_i hlt
    rw [List.getElem?_drop] at hk
    have h2 := h1 (p.1 + k) x (by omega) (by omega) hk
    have h3 : x ∈ upto s.data.toList := List.mem_of_getElem? hk
    have h4 : (x != 35) = true := by
      have := List.all_takeWhile (p := fun c : UInt8 => c != 35) (l := s.data.toList)
      exact List.all_eq_true.1 this x h3
    unfold blank at h2
    rw [Bool.or_eq_false_iff] at h2
    simp only [Bool.and_eq_true, bne_iff_ne, ne_eq]
    exact ⟨⟨beq_eq_false_iff_ne.1 h2.1, beq_eq_false_iff_ne.1 h2.2⟩, by simpa using h4⟩
  · cases hk
theorem word_size (s : ByteArray) (p : Nat × Nat) (hp : p ∈ wordsOf s) : p.1 < p.2 ∧ p.2 ≤ s.size ∧ ((cutHash s).1.extract p.1 p.2).size = p.2 - p.1 := by
  have h1 := wi_in _ 0 0 (Nat.le_refl _) p hp
  have h2 : (upto s.data.toList).length ≤ s.data.toList.length := (List.takeWhile_sublist _).length_le
  have h3 : (cutHash s).1.size = (upto s.data.toList).length := by rw [Lib.size_eq, cutHash_bytes]
  have h4 := Lib.size_eq s
  refine ⟨h1.2.1, by omega, ?_⟩
  rw [ByteArray.size_extract]
  omega
theorem word_prefix (s : ByteArray) (p : Nat × Nat) (hp : p ∈ wordsOf s) : strings_HasPrefix.f (s.extract p.1 s.size) ((cutHash s).1.extract p.1 p.2) = some true := by
  obtain ⟨h1, h2, h3⟩ := word_size s p hp
  have h4 := word_same s p hp
  have h5 : (s.extract p.1 s.size).size = s.size - p.1 := by rw [ByteArray.size_extract]; omega
  unfold strings_HasPrefix.f stringslite_HasPrefix.f
  rw [h3, h5, if_pos (by omega), if_pos (by omega), if_pos (by omega), Option.bind_some, Int.toNat_natCast, h4, Lib.extract_toList, Lib.extract_toList, Lib.extract_data]
  congr 1
  rw [beq_iff_eq, List.drop_zero, List.take_take, Nat.sub_zero, Nat.min_eq_left (by omega)]
end Go.Proofs.YthkpocgbinmeiaaDoor.U

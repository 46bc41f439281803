/- Plain lemmas on words: where they lie; ours and the reference's. -/
import Derived.Test.YthkpocgbinmeiaaDoorUNum
import Derived.Test.YthkpocgbinmeiaaDoorGCut
import Derived.Test.YthkpocgbinmeiaaDoorP2
namespace Go.Proofs.YthkpocgbinmeiaaDoor.U
set_option linter.unusedVariables false
set_option linter.unusedSimpArgs false
open Go.RowKit Go.Proofs.YthkpocgbinmeiaaDoor.P Go.Proofs.YthkpocgbinmeiaaDoorW.PrintWords Go.Proofs.YthkpocgbinmeiaaDoorW.PrintLast Go.Proofs.YthkpocgbinmeiaaDoorW.PrintMore

def blank (c : UInt8) : Bool := c == 32 || c == 9
/-- Where words lie: from the place pos on, one having begun at f. -/
def wi (f pos : Nat) : List UInt8 → List (Nat × Nat)
  | [] => if f < pos then [(f, pos)] else []
  | c :: t => if blank c then (if f < pos then [(f, pos)] else []) ++ wi (pos + 1) (pos + 1) t else wi f (pos + 1) t
def upto (l : List UInt8) : List UInt8 := l.takeWhile (fun c => c != 35)
theorem wi_len (l : List UInt8) : ∀ f pos, (wi f pos l).length ≤ l.length + 1 := by
  induction l with
  | nil => intro f pos; simp only [wi]; split <;> simp
  | cons c t ih =>
    intro f pos
    simp only [wi]
    split
    · have := ih (pos + 1) (pos + 1)
      rw [List.length_append]
      split <;> simp <;> omega
    · have := ih f (pos + 1)
      simp; omega
theorem wi_in (l : List UInt8) : ∀ f pos, f ≤ pos → ∀ p ∈ wi f pos l, f ≤ p.1 ∧ p.1 < p.2 ∧ p.2 ≤ pos + l.length := by
  induction l with
  | nil =>
    intro f pos hf p hp
    simp only [wi] at hp
    split at hp
    · simp at hp; subst hp; simp; omega
    · simp at hp
  | cons c t ih =>
    intro f pos hf p hp
    simp only [wi] at hp
    split at hp
    · rcases List.mem_append.1 hp with hp | hp
      · split at hp
        · simp at hp; subst hp; simp; omega
        · simp at hp
      · have := ih (pos + 1) (pos + 1) (Nat.le_refl _) p hp
        simp; omega
    · have := ih f (pos + 1) (by omega) p hp
      simp; omega
theorem wi_shift (l : List UInt8) : ∀ f pos, wi (f + 1) (pos + 1) l = (wi f pos l).map fun p => (p.1 + 1, p.2 + 1) := by
  induction l with
  | nil => intro f pos; simp only [wi]; by_cases h : f < pos <;> simp [h]
  | cons c t ih =>
    intro f pos
    simp only [wi]
    by_cases hb : blank c = true
    · rw [if_pos hb, if_pos hb, ih, List.map_append]; by_cases h : f < pos <;> simp [h]
    · rw [if_neg hb, if_neg hb, ih]
theorem wi_end (l : List UInt8) : ∀ f pos, wi f pos (l ++ [9]) = wi f pos l := by
  induction l with
  | nil => intro f pos; simp [wi, blank]
  | cons c t ih =>
    intro f pos
    simp only [List.cons_append, wi]
    by_cases hb : blank c = true
    · rw [if_pos hb, if_pos hb, ih]
    · rw [if_neg hb, if_neg hb, ih]
theorem bt_get (s : ByteArray) (i : Nat) (c : UInt8) (t : List UInt8) (h : s.data.toList.drop i = c :: t) : i < s.size ∧ bt s (i : Int) = (c.toNat : Int) := by
  have hl : i < s.data.toList.length := by
    rcases Nat.lt_or_ge i s.data.toList.length with h1 | h1
    · exact h1
    · rw [List.drop_of_length_le h1] at h; cases h
  have hs : i < s.size := by rw [Lib.size_eq]; exact hl
  refine ⟨hs, ?_⟩
  rw [List.drop_eq_getElem_cons hl] at h
  have h2 : s.data.toList[i] = c := (List.cons.inj h).1
  unfold bt
  rw [dif_pos (by simpa using hs)]
  rw [← h2]; rfl
theorem ib_cons (b : UInt8) (l : List UInt8) (c : UInt8) : Lib.indexByte (b :: l) c = if b == c then 0 else if Lib.indexByte l c == -1 then -1 else Lib.indexByte l c + 1 := rfl
theorem cut_upto (l : List UInt8) : (0 ≤ Lib.indexByte l 35 → l.take (Lib.indexByte l 35).toNat = upto l) ∧ (¬ 0 ≤ Lib.indexByte l 35 → upto l = l) := by
  induction l with
  | nil => simp [Lib.indexByte, upto]
  | cons b l ih =>
    have hge := Lib.indexByte_ge l 35
    by_cases hb : (b == 35) = true
    · have hi : Lib.indexByte (b :: l) 35 = 0 := by rw [ib_cons, if_pos hb]
      have hb' : b = 35 := by simpa using hb
      rw [hi]; simp [upto, hb']
    · have hu : upto (b :: l) = b :: upto l := by
        have hb' : b ≠ 35 := by simpa using hb
        simp [upto, hb']
      by_cases h1 : Lib.indexByte l 35 = -1
      · have hi : Lib.indexByte (b :: l) 35 = -1 := by rw [ib_cons, if_neg hb, if_pos (by simpa using h1)]
        rw [hi, hu]
        exact ⟨fun h => by omega, fun _ => by rw [ih.2 (by omega)]⟩
      · have hi : Lib.indexByte (b :: l) 35 = Lib.indexByte l 35 + 1 := by rw [ib_cons, if_neg hb, if_neg (by simpa using h1)]
        rw [hi, hu]
        refine ⟨fun h => ?_, fun h => by omega⟩
        rw [show (Lib.indexByte l 35 + 1).toNat = (Lib.indexByte l 35).toNat + 1 by omega, List.take_succ_cons, ih.1 (by omega)]
theorem cutHash_bytes (s : ByteArray) : (cutHash s).1.data.toList = upto s.data.toList := by
  unfold cutHash
  obtain ⟨h1, h2⟩ := cut_upto s.data.toList
  by_cases h : 0 ≤ Lib.indexByte s.data.toList 35
  · rw [if_pos h]; dsimp only; rw [Lib.extract_data, List.drop_zero, Nat.sub_zero]; exact h1 h
  · rw [if_neg h]; dsimp only; exact (h2 h).symm
/-- Ours, over what stands ahead of the byte 35. -/
theorem words_loop (s : ByteArray) (hs : s.size ≤ 1000000) (t : List UInt8) : ∀ (f i : Nat) (ws : List ByteArray) (at_ : List Int), s.data.toList.drop i = t → i ≤ s.size → f ≤ i → ws.length ≤ i → at_.length ≤ i →
    Ev (fun k => word_Words.l0 k s ws at_ (f : Int) (i : Int)) (ws ++ (wi f i t).map (fun p => s.extract p.1 p.2), at_ ++ (wi f i t).map (fun p => (p.1 : Int))) := by
  induction t with
  | nil =>
    intro f i ws at_ hd hi hf h1 h2
    have hi' : i = s.size := by
      have := List.drop_eq_nil_iff.mp hd
      rw [← Lib.size_eq] at this; omega
    refine ⟨3, fun k hk => ?_⟩
    obtain ⟨k, rfl⟩ : ∃ m, k = m + 1 + 1 + 1 := ⟨k - 3, by omega⟩
    simp only [word_Words.l0, word_Words.j1]
    rw [if_pos (by omega), if_neg (by omega), if_neg (by simp)]
    by_cases h : f < i
    · rw [if_pos (by omega), if_pos (by omega), if_pos (by omega), if_pos (by omega), if_pos (by omega), if_pos (by omega), w64 (by omega) (by omega)]
      rw [if_neg (by omega)]
      simp [wi, h]
    · rw [if_neg (by omega), w64 (by omega) (by omega), if_neg (by omega)]
      simp [wi, h]
  | cons c t ih =>
    intro f i ws at_ hd hi hf h1 h2
    obtain ⟨hlt, hbt⟩ := bt_get s i c t hd
    have hd' : s.data.toList.drop (i + 1) = t := by
      have := congrArg List.tail hd
      simpa [List.tail_drop] using this
    have hcl := c.toNat_lt
    by_cases hb : blank c = true
    · have h32 : c.toNat = 32 ∨ c.toNat = 9 := by
        unfold blank at hb
        simp only [Bool.or_eq_true, beq_iff_eq] at hb
        rcases hb with rfl | rfl
        · exact .inl rfl
        · exact .inr rfl
      have step : ∀ k, word_Words.l0 (k + 1) s ws at_ (f : Int) (i : Int) = word_Words.j1 k s ws at_ (f : Int) (i : Int) false := by
        intro k
        simp only [word_Words.l0]
        rw [if_pos (by omega), if_pos (by omega), if_pos (by omega), hbt]
        rcases h32 with h | h
        · rw [if_pos (by omega)]
        · rw [if_neg (by omega), h]; rfl
      have hwi : wi f i (c :: t) = (if f < i then [(f, i)] else []) ++ wi (i + 1) (i + 1) t := by simp only [wi]; rw [if_pos hb]
      rw [hwi]
      by_cases h : f < i
      · rw [if_pos h]
        obtain ⟨K, e⟩ := ih (i + 1) (i + 1) (ws ++ [s.extract f i]) (at_ ++ [(f : Int)]) hd' (by omega) (by omega) (by simp; omega) (by simp; omega)
        refine ⟨K + 2, fun k hk => ?_⟩
        obtain ⟨k, rfl⟩ : ∃ m, k = m + 1 + 1 := ⟨k - 2, by omega⟩
        dsimp only
        rw [step]
        simp only [word_Words.j1]
        rw [if_neg (by simp), if_pos (by omega), if_pos (by omega), if_pos (by omega), if_pos (by omega), if_pos (by omega), if_pos (by omega), w64 (by omega) (by omega)]
        have := e k (by omega)
        dsimp only at this
        rw [show ((i : Int) + 1) = ((i + 1 : Nat) : Int) by omega]
        simp only [Int.toNat_natCast]
        rw [this]
        simp
      · rw [if_neg h]
        obtain ⟨K, e⟩ := ih (i + 1) (i + 1) ws at_ hd' (by omega) (by omega) (by omega) (by omega)
        refine ⟨K + 2, fun k hk => ?_⟩
        obtain ⟨k, rfl⟩ : ∃ m, k = m + 1 + 1 := ⟨k - 2, by omega⟩
        dsimp only
        rw [step]
        simp only [word_Words.j1]
        rw [if_neg (by simp), if_neg (by omega), w64 (by omega) (by omega), show ((i : Int) + 1) = ((i + 1 : Nat) : Int) by omega]
        exact e k (by omega)
    · have h32 : c.toNat ≠ 32 ∧ c.toNat ≠ 9 := by
        unfold blank at hb
        simp only [Bool.or_eq_true, beq_iff_eq, not_or] at hb
        exact ⟨fun h => hb.1 (UInt8.toNat_inj.1 h), fun h => hb.2 (UInt8.toNat_inj.1 h)⟩
      have hwi : wi f i (c :: t) = wi f (i + 1) t := by simp only [wi]; rw [if_neg hb]
      rw [hwi]
      obtain ⟨K, e⟩ := ih f (i + 1) ws at_ hd' (by omega) (by omega) (by omega) (by omega)
      refine ⟨K + 2, fun k hk => ?_⟩
      obtain ⟨k, rfl⟩ : ∃ m, k = m + 1 + 1 := ⟨k - 2, by omega⟩
      simp only [word_Words.l0]
      rw [if_pos (by omega), if_pos (by omega), if_pos (by omega), hbt, if_neg (by omega)]
      have h9 : ((c.toNat : Int) != 9) = true := by simp; omega
      rw [h9]
      simp only [word_Words.j1]
      rw [if_pos trivial, w64 (by omega) (by omega), show ((i : Int) + 1) = ((i + 1 : Nat) : Int) by omega]
      exact e k (by omega)
/-- A line's words, and where they begin. -/
def wordsOf (s : ByteArray) : List (Nat × Nat) := wi 0 0 (upto s.data.toList)
theorem words_ev (s : ByteArray) (hs : s.size ≤ 100000) : Ev (fun k => word_Words.f k s) ((wordsOf s).map (fun p => (cutHash s).1.extract p.1 p.2), (wordsOf s).map (fun p => (p.1 : Int))) := by
  have hle : (cutHash s).1.size ≤ s.size := by
    rw [Lib.size_eq, cutHash_bytes, Lib.size_eq]
    exact (List.takeWhile_sublist _).length_le
  obtain ⟨K, e⟩ := words_loop (cutHash s).1 (by omega) _ 0 0 [] [] rfl (by omega) (by omega) (by simp) (by simp)
  refine ⟨K, fun k hk => ?_⟩
  have := e k hk
  simp only [word_Words.f, strings_Cut.f]
  rw [if_pos ⟨trivial, by omega⟩, Option.bind_some]
  dsimp only at this
  rw [show ((0 : Nat) : Int) = 0 from rfl, List.drop_zero, cutHash_bytes] at this
  simpa [wordsOf] using this
/-- Words lie ahead of the byte 35. -/
theorem words_len (s : ByteArray) : (wordsOf s).length ≤ s.size + 1 := by
  have h1 := wi_len (upto s.data.toList) 0 0
  have h2 : (upto s.data.toList).length ≤ s.data.toList.length := (List.takeWhile_sublist _).length_le
  rw [Lib.size_eq]; unfold wordsOf; omega
theorem take_upto (l : List UInt8) (a b : Nat) (h : b ≤ (upto l).length) : ((upto l).drop a).take (b - a) = (l.drop a).take (b - a) := by
  obtain ⟨r, hr⟩ := List.takeWhile_prefix (p := fun c : UInt8 => c != 35) (l := l)
  have hr' : upto l ++ r = l := hr
  conv => rhs; rw [← hr']
  rcases Nat.lt_or_ge (upto l).length a with h1 | h1
  · rw [List.drop_of_length_le (by omega), show b - a = 0 by omega]; simp
  · rw [List.drop_append_of_le_length h1, List.take_append_of_le_length (by simp; omega)]
theorem word_same (s : ByteArray) (p : Nat × Nat) (hp : p ∈ wordsOf s) : ((cutHash s).1.extract p.1 p.2).toList = (s.extract p.1 p.2).toList := by
  have := wi_in _ 0 0 (Nat.le_refl _) p hp
  rw [Lib.extract_toList, Lib.extract_toList, cutHash_bytes, take_upto _ _ _ (by omega)]
end Go.Proofs.YthkpocgbinmeiaaDoor.U

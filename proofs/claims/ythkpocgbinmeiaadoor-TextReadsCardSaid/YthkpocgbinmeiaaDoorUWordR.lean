/- The reference's words. -/
import Derived.Test.YthkpocgbinmeiaaDoorUWordD
import Derived.Test.YthkpocgbinmeiaaDoorP4
namespace Go.Proofs.YthkpocgbinmeiaaDoor.U
set_option linter.unusedVariables false
set_option linter.unusedSimpArgs false
open Go.RowKit Go.Proofs.YthkpocgbinmeiaaDoor.P Go.Proofs.YthkpocgbinmeiaaDoorW.PrintWords Go.Proofs.YthkpocgbinmeiaaDoorW.PrintLast Go.Proofs.YthkpocgbinmeiaaDoorW.PrintMore

/-- The reference's. -/
theorem refwords_loop (s : ByteArray) (hs : s.size ≤ 1000000) (d : Nat) : ∀ (i : Nat), d = s.size - i → i ≤ s.size → 
    (∀ (ws : List ByteArray) (at_ : List Int), ws.length ≤ i → at_.length ≤ i → Ev (fun k => recantref01_Words.l0 k s (i : Int) ws at_) (ws ++ (wi i i (upto (s.data.toList.drop i))).map (fun p => s.extract p.1 p.2), at_ ++ (wi i i (upto (s.data.toList.drop i))).map (fun p => (p.1 : Int)))) ∧
    (∀ (f : Nat) (ws : List ByteArray) (at_ : List Int), f ≤ i → (f = i → i < s.size ∧ bt s (i : Int) ≠ 35) → ws.length ≤ f → at_.length ≤ f → Ev (fun k => recantref01_Words.l1 k s (f : Int) (i : Int) ws at_) (ws ++ (wi f i (upto (s.data.toList.drop i))).map (fun p => s.extract p.1 p.2), at_ ++ (wi f i (upto (s.data.toList.drop i))).map (fun p => (p.1 : Int)))) := by
  induction d with
  | zero =>
    intro i hd hi
    have hi' : i = s.size := by omega
    have hnil : s.data.toList.drop i = [] := List.drop_of_length_le (by rw [← Lib.size_eq]; omega)
    rw [hnil]
    have A : ∀ (ws : List ByteArray) (at_ : List Int) k, recantref01_Words.l0 (k + 2) s (i : Int) ws at_ = some (ws, at_) := by
      intro ws at_ k
      simp only [recantref01_Words.l0, recantref01_Words.j1]
      rw [if_neg (by omega), if_neg (by simp)]
    refine ⟨fun ws at_ h1 h2 => ⟨2, fun k hk => ?_⟩, fun f ws at_ hf hne h1 h2 => ⟨3, fun k hk => ?_⟩⟩
    · obtain ⟨k, rfl⟩ : ∃ m, k = m + 2 := ⟨k - 2, by omega⟩
      dsimp only
      rw [A]; simp [upto, wi]
    · obtain ⟨k, rfl⟩ : ∃ m, k = m + 2 + 1 := ⟨k - 3, by omega⟩
      have hfi : f < i := by
        rcases Nat.lt_or_ge f i with h | h
        · exact h
        · have := hne (by omega); omega
      simp only [recantref01_Words.l1]
      rw [if_neg (by omega), if_neg (by omega), if_pos (by omega), if_pos (by omega), if_pos (by omega), if_pos (by omega), if_pos (by omega), A]
      simp [upto, wi, hfi]
  | succ d ih =>
    intro i hd hi
    obtain ⟨c, t, hct⟩ : ∃ c t, s.data.toList.drop i = c :: t := by
      cases h : s.data.toList.drop i with
      | nil => have := List.drop_eq_nil_iff.mp h; rw [← Lib.size_eq] at this; omega
      | cons c t => exact ⟨c, t, rfl⟩
    obtain ⟨hlt, hbt⟩ := bt_get s i c t hct
    have hd' : s.data.toList.drop (i + 1) = t := by
      have := congrArg List.tail hct
      simpa [List.tail_drop] using this
    have hcl := c.toNat_lt
    obtain ⟨ihl, ihk⟩ := ih (i + 1) (by omega) (by omega)
    rw [hd'] at ihl ihk
    -- the inner loop, at this place
    have L1 : ∀ (f : Nat) (ws : List ByteArray) (at_ : List Int), f ≤ i → (f = i → i < s.size ∧ bt s (i : Int) ≠ 35) → ws.length ≤ f → at_.length ≤ f → (f < i → Ev (fun k => recantref01_Words.l0 k s (i : Int) (ws ++ [s.extract f i]) (at_ ++ [(f : Int)])) (ws ++ [s.extract f i] ++ (wi i i (upto (c :: t))).map (fun p => s.extract p.1 p.2), at_ ++ [(f : Int)] ++ (wi i i (upto (c :: t))).map (fun p => (p.1 : Int)))) →
        Ev (fun k => recantref01_Words.l1 k s (f : Int) (i : Int) ws at_) (ws ++ (wi f i (upto (c :: t))).map (fun p => s.extract p.1 p.2), at_ ++ (wi f i (upto (c :: t))).map (fun p => (p.1 : Int))) := by
      intro f ws at_ hf hne h1 h2 hrec
      by_cases hstop : c.toNat = 9 ∨ c.toNat = 32 ∨ c.toNat = 35
      · by_cases hfi : f < i
        · obtain ⟨K, e⟩ := hrec hfi
          refine ⟨K + 1, fun k hk => ?_⟩
          obtain ⟨k, rfl⟩ : ∃ m, k = m + 1 := ⟨k - 1, by omega⟩
          have hw : wi f i (upto (c :: t)) = (f, i) :: wi i i (upto (c :: t)) := by
            by_cases h35 : c.toNat = 35
            · have : c = 35 := UInt8.toNat_inj.1 h35
              subst this
              simp [upto, wi, hfi]
            · have hb : blank c = true := by
                unfold blank; simp only [Bool.or_eq_true, beq_iff_eq]
                rcases hstop with h | h | h
                · exact .inr (UInt8.toNat_inj.1 h)
                · exact .inl (UInt8.toNat_inj.1 h)
                · exact absurd h h35
              have hu : upto (c :: t) = c :: upto t := by
                have : c ≠ 35 := fun h => h35 (by rw [h]; rfl)
                simp [upto, this]
              rw [hu]
              simp [wi, hb, hfi]
          have hgo := e k (by omega)
          dsimp only at hgo
          simp only [recantref01_Words.l1]
          rw [if_pos (by omega), if_pos (by omega), hbt, hw]
          simp only [List.map_cons, Int.toNat_natCast]
          have : ∀ X : Option (List ByteArray × List Int), (if (i : Int) = (f : Int) then X else if 0 ≤ (f : Int) then if (f : Int) ≤ (i : Int) then if (i : Int) ≤ (s.size : Int) then if ws.length < 8796093022208 then if at_.length < 17592186044416 then recantref01_Words.l0 k s (i : Int) (ws ++ [s.extract f i]) (at_ ++ [(f : Int)]) else none else none else none else none else none) = recantref01_Words.l0 k s (i : Int) (ws ++ [s.extract f i]) (at_ ++ [(f : Int)]) := by
            intro X
            rw [if_neg (by omega), if_pos (by omega), if_pos (by omega), if_pos (by omega), if_pos (by omega), if_pos (by omega)]
          rcases hstop with h | h | h
          · rw [if_pos (by omega), this, hgo]; simp
          · rw [if_neg (by omega), if_pos (by omega), this, hgo]; simp
          · rw [if_neg (by omega), if_neg (by omega), if_pos (by omega), this, hgo]; simp
        · obtain rfl : f = i := by omega
          have h35 : c.toNat ≠ 35 := by have := (hne rfl).2; rw [hbt] at this; omega
          have hb : blank c = true := by
            unfold blank; simp only [Bool.or_eq_true, beq_iff_eq]
            rcases hstop with h | h | h
            · exact .inr (UInt8.toNat_inj.1 h)
            · exact .inl (UInt8.toNat_inj.1 h)
            · exact absurd h h35
          have hu : upto (c :: t) = c :: upto t := by
            have : c ≠ 35 := fun h => h35 (by rw [h]; rfl)
            simp [upto, this]
          have hw : wi f f (upto (c :: t)) = wi (f + 1) (f + 1) (upto t) := by rw [hu]; simp [wi, hb]
          rw [hw]
          obtain ⟨K, e⟩ := ihl ws at_ (by omega) (by omega)
          refine ⟨K + 1, fun k hk => ?_⟩
          obtain ⟨k, rfl⟩ : ∃ m, k = m + 1 := ⟨k - 1, by omega⟩
          have hgo := e k (by omega)
          dsimp only at hgo
          simp only [recantref01_Words.l1]
          rw [if_pos (by omega), if_pos (by omega), hbt]
          rcases hstop with h | h | h
          · rw [if_pos (by omega), if_pos trivial, w64 (by omega) (by omega)]; exact hgo
          · rw [if_neg (by omega), if_pos (by omega), if_pos trivial, w64 (by omega) (by omega)]; exact hgo
          · exact absurd h h35
      · have hb : ¬ blank c = true := by
          unfold blank; simp only [Bool.or_eq_true, beq_iff_eq]
          rintro (rfl | rfl)
          · exact hstop (.inr (.inl rfl))
          · exact hstop (.inl rfl)
        have hu : upto (c :: t) = c :: upto t := by
          have : c ≠ 35 := fun h => hstop (.inr (.inr (by rw [h]; rfl)))
          simp [upto, this]
        have hw : wi f i (upto (c :: t)) = wi f (i + 1) (upto t) := by rw [hu]; simp [wi, hb]
        rw [hw]
        obtain ⟨K, e⟩ := ihk f ws at_ (by omega) (by omega) h1 h2
        refine ⟨K + 1, fun k hk => ?_⟩
        obtain ⟨k, rfl⟩ : ∃ m, k = m + 1 := ⟨k - 1, by omega⟩
        have hgo := e k (by omega)
        dsimp only at hgo
        simp only [recantref01_Words.l1]
        rw [if_pos (by omega), if_pos (by omega), hbt, if_neg (by omega), if_neg (by omega), if_neg (by omega), w64 (by omega) (by omega)]
        exact hgo
    rw [hct]
    have L0 : ∀ (ws : List ByteArray) (at_ : List Int), ws.length ≤ i → at_.length ≤ i → Ev (fun k => recantref01_Words.l0 k s (i : Int) ws at_) (ws ++ (wi i i (upto (c :: t))).map (fun p => s.extract p.1 p.2), at_ ++ (wi i i (upto (c :: t))).map (fun p => (p.1 : Int))) := by
      intro ws at_ h1 h2
      by_cases h35 : c.toNat = 35
      · have : c = 35 := UInt8.toNat_inj.1 h35
        refine ⟨2, fun k hk => ?_⟩
        obtain ⟨k, rfl⟩ : ∃ m, k = m + 1 + 1 := ⟨k - 2, by omega⟩
        simp only [recantref01_Words.l0]
        rw [if_pos (by omega), if_pos (by omega), hbt, h35]
        simp [recantref01_Words.j1, this, upto, wi]
      · obtain ⟨K, e⟩ := L1 i ws at_ (Nat.le_refl _) (fun _ => ⟨hlt, by rw [hbt]; omega⟩) h1 h2 (fun h => by omega)
        refine ⟨K + 2, fun k hk => ?_⟩
        obtain ⟨k, rfl⟩ : ∃ m, k = m + 1 + 1 := ⟨k - 2, by omega⟩
        have hgo := e k (by omega)
        dsimp only at hgo
        simp only [recantref01_Words.l0]
        rw [if_pos (by omega), if_pos (by omega), hbt]
        have : ((c.toNat : Int) != 35) = true := by simp; omega
        rw [this]
        simp only [recantref01_Words.j1]
        rw [if_pos trivial]
        exact hgo
    exact ⟨L0, fun f ws at_ hf hne h1 h2 => L1 f ws at_ hf hne h1 h2 (fun hfi => L0 _ _ (by simp; omega) (by simp; omega))⟩
theorem refwords_ev (s : ByteArray) (hs : s.size ≤ 100000) : Ev (fun k => recantref01_Words.f k s) ((wordsOf s).map (fun p => s.extract p.1 p.2), (wordsOf s).map (fun p => (p.1 : Int))) := by
  obtain ⟨K, e⟩ := (refwords_loop s (by omega) s.size 0 (by omega) (by omega)).1 [] [] (by simp) (by simp)
  refine ⟨K, fun k hk => ?_⟩
  have := e k hk
  simp only [recantref01_Words.f]
  dsimp only at this
  rw [show ((0 : Nat) : Int) = 0 from rfl, List.drop_zero] at this
  simpa [wordsOf] using this
end Go.Proofs.YthkpocgbinmeiaaDoor.U

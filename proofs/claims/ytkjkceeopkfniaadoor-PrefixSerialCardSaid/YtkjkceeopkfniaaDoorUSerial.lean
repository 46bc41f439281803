/- Whether transactions are one after the other: ours and the document's. -/
import Derived.Test.YtkjkceeopkfniaaDoorUTab
import Derived.Test.YtkjkceeopkfniaaDoorGSerial
import Derived.Test.YtkjkceeopkfniaaDoorP4
namespace Go.Proofs.YtkjkceeopkfniaaDoor.U
set_option linter.unusedVariables false
set_option linter.unusedSimpArgs false
open Go Go.RowKit Go.Proofs.YtkjkceeopkfniaaDoor.P Go.Proofs.YtkjkceeopkfniaaDoorW.PrintWords Go.Proofs.YtkjkceeopkfniaaDoorW.PrintLast Go.Proofs.YtkjkceeopkfniaaDoorW.PrintMore

def ContP (l : List S36) : Prop := ∀ i k, i < k → k < l.length → txA l k = txA l i → txA l (k - 1) = txA l i
theorem apart_iff (l : List S36) (hl : l.length ≤ 1000) : (tabT l).any (apartB l) = false ↔ ContP l := by
  have hki := ki_tab l
  have hone : ∀ k ∈ tabK 0 l [], ∀ f g : Nat, k.first = (f : Int) → k.last = (g : Int) → f ≤ g → g < l.length → (apartB l (txnK k) = false ↔ (l.filter (keepE k.name)).length = g + 1 - f) := by
    intro k hk f g hf hg hfg hgl
    unfold apartB txnK
    dsimp only
    rw [hf, hg, w64 (x := (g : Int) - (f : Int)) (by omega) (by omega), w64 (x := (g : Int) - (f : Int) + 1) (by omega) (by omega)]
    have hne : (((g : Int) - (f : Int) + 1) != ((l.filter (keepE k.name)).length : Int)) = false ↔ (g : Int) - (f : Int) + 1 = ((l.filter (keepE k.name)).length : Int) := by
      rw [bne_eq_false_iff_eq]
    rw [hne]
    omega
  constructor
  · intro h i k hik hkl he
    have hn : hasN (tabK 0 l []) (txA l i) = true := (hki.nm _).2 ⟨i, by omega, rfl⟩
    obtain ⟨kk, hkk, hname⟩ := (hasN_iff _ _).1 hn
    obtain ⟨f, g, hf, hg, hfg, hgl, _, _, hall⟩ := hki.fl kk hkk
    have ha : apartB l (txnK kk) = false := by
      have := List.any_eq_false.1 h (txnK kk) (List.mem_map_of_mem hkk)
      simpa using this
    have hc := (hone kk hkk f g hf hg hfg hgl).1 ha
    have hall2 := (seg_all l kk.name f g hfg hgl hall).1 hc
    have h1 := hall i (by omega) hname.symm
    have h2 := hall k hkl (he.trans hname.symm)
    rw [← hname]
    exact hall2 (k - 1) (by omega) (by omega)
  · intro h
    rw [List.any_eq_false]
    intro t ht
    obtain ⟨kk, hkk, rfl⟩ := List.mem_map.1 ht
    obtain ⟨f, g, hf, hg, hfg, hgl, hf1, hg1, hall⟩ := hki.fl kk hkk
    have hdown : ∀ d, d ≤ g - f → txA l (g - d) = kk.name := by
      intro d
      induction d with
      | zero => intro _; exact hg1
      | succ d ih =>
        intro hd
        have h1 := ih (by omega)
        have h2 := h f (g - d) (by omega) (by omega) (h1.trans hf1.symm)
        rw [show g - (d + 1) = g - d - 1 by omega, h2, hf1]
    have hc : (l.filter (keepE kk.name)).length = g + 1 - f := (seg_all l kk.name f g hfg hgl hall).2 (fun j h1 h2 => by
      have := hdown (g - j) (by omega)
      rwa [show g - (g - j) = j by omega] at this)
    have := (hone kk hkk f g hf hg hfg hgl).2 hc
    simp [this]
def innerB (l : List S36) (a : Int) : Nat → Nat → Bool
  | 0, _ => true
  | d + 1, j => (!(txA l j == a) || (txA l (j - 1) == a)) && innerB l a d (j + 1)
def outerB (l : List S36) : Nat → Nat → Bool
  | 0, _ => true
  | d + 1, i => innerB l (txA l i) d (i + 1) && outerB l d (i + 1)
theorem inner_iff (l : List S36) (a : Int) (d : Nat) : ∀ j, innerB l a d j = true ↔ ∀ k, j ≤ k → k < j + d → txA l k = a → txA l (k - 1) = a := by
  induction d with
  | zero => intro j; exact ⟨fun _ k h1 h2 => by omega, fun _ => rfl⟩
  | succ d ih =>
    intro j
    unfold innerB
    rw [Bool.and_eq_true, ih, Bool.or_eq_true, Bool.not_eq_true', beq_iff_eq, beq_eq_false_iff_ne]
    constructor
    · rintro ⟨h1, h2⟩ k hk1 hk2 hk3
      by_cases hkj : k = j
      · subst hkj
        rcases h1 with h1 | h1
        · exact absurd hk3 h1
        · exact h1
      · exact h2 k (by omega) (by omega) hk3
    · intro h
      refine ⟨?_, fun k hk1 hk2 hk3 => h k (by omega) (by omega) hk3⟩
      by_cases hj : txA l j = a
      · exact .inr (h j (by omega) (by omega) hj)
      · exact .inl hj
theorem outer_iff (l : List S36) (d : Nat) : ∀ i, i + d = l.length → (outerB l d i = true ↔ ∀ i', i ≤ i' → ∀ k, i' < k → k < l.length → txA l k = txA l i' → txA l (k - 1) = txA l i') := by
  induction d with
  | zero => intro i hi; exact ⟨fun _ i' h1 k h2 h3 => by omega, fun _ => rfl⟩
  | succ d ih =>
    intro i hi
    unfold outerB
    rw [Bool.and_eq_true, inner_iff, ih (i + 1) (by omega)]
    constructor
    · rintro ⟨h1, h2⟩ i' hi' k hk1 hk2 hk3
      by_cases he : i' = i
      · subst he
        exact h1 k (by omega) (by omega) hk3
      · exact h2 i' (by omega) k hk1 hk2 hk3
    · intro h
      exact ⟨fun k h1 h2 h3 => h i (Nat.le_refl _) k (by omega) (by omega) h3, fun i' hi' => h i' (by omega)⟩
theorem pinner (l : List S36) (hl : l.length ≤ 1000) (i : Nat) (x0 x1 x2 x3 : Int) (R : Bool) (hR : Ev (fun k => recantref08_Serial.l0 k l l (l.length : Int) (((i + 1 : Nat) : Nat) : Int)) R) (hil : i < l.length) (d : Nat) : ∀ j : Nat, j + d = l.length → 1 ≤ j →
    Ev (fun k => recantref08_Serial.l1 k l (j : Int) l (l.length : Int) (i : Int) x0 x1 x2 x3) (innerB l x1 d j && R) := by
  induction d with
  | zero =>
    intro j hj h1
    obtain ⟨K, e⟩ := hR
    refine ⟨K + 1, fun k hk => ?_⟩
    obtain ⟨k, rfl⟩ : ∃ m, k = m + 1 := ⟨k - 1, by omega⟩
    have e := e k (by omega)
    dsimp only at e
    simp only [recantref08_Serial.l1]
    rw [if_neg (by omega), w64 (by omega) (by omega), show ((i : Int) + 1) = ((i + 1 : Nat) : Int) by omega, e]
    rfl
  | succ d ih =>
    intro j hj h1
    obtain ⟨K, e⟩ := ih (j + 1) (by omega) (by omega)
    refine ⟨K + 1, fun k hk => ?_⟩
    obtain ⟨k, rfl⟩ : ∃ m, k = m + 1 := ⟨k - 1, by omega⟩
    have e := e k (by omega)
    dsimp only at e
    simp only [recantref08_Serial.l1]
    unfold innerB
    have hj1 : (rd_T36 l (j : Int)).f1 = txA l j := rfl
    have hj2 : (rd_T36 l ((j - 1 : Nat) : Int)).f1 = txA l (j - 1) := rfl
    rw [if_pos (by omega), if_pos (by omega), w64 (x := (j : Int) - 1) (by omega) (by omega), w64 (x := (j : Int) + 1) (by omega) (by omega), show ((j : Int) - 1) = ((j - 1 : Nat) : Int) by omega, show ((j : Int) + 1) = ((j + 1 : Nat) : Int) by omega, hj1, hj2]
    by_cases h : txA l j = x1
    · rw [if_pos h, if_pos (by omega), if_pos (by omega)]
      by_cases h2 : txA l (j - 1) = x1
      · rw [if_pos h2, e]
        simp [h2]
      · rw [if_neg h2]
        have b1 : (txA l j == x1) = true := beq_iff_eq.2 h
        have b2 : (txA l (j - 1) == x1) = false := beq_eq_false_iff_ne.2 h2
        rw [b1, b2]
        rfl
    · rw [if_neg h, e]
      have b1 : (txA l j == x1) = false := beq_eq_false_iff_ne.2 h
      rw [b1]
      simp
theorem pouter (l : List S36) (hl : l.length ≤ 1000) (d : Nat) : ∀ i : Nat, i + d = l.length → Ev (fun k => recantref08_Serial.l0 k l l (l.length : Int) (i : Int)) (outerB l d i) := by
  induction d with
  | zero =>
    intro i hi
    refine ⟨1, fun k hk => ?_⟩
    obtain ⟨k, rfl⟩ : ∃ m, k = m + 1 := ⟨k - 1, by omega⟩
    simp only [recantref08_Serial.l0]
    rw [if_neg (by omega)]
    rfl
  | succ d ih =>
    intro i hi
    obtain ⟨K, e⟩ := pinner l hl i (rd_T36 l (i : Int)).f0 (rd_T36 l (i : Int)).f1 (rd_T36 l (i : Int)).f2 (rd_T36 l (i : Int)).f3 (outerB l d (i + 1)) (ih (i + 1) (by omega)) (by omega) d (i + 1) (by omega) (by omega)
    refine ⟨K + 1, fun k hk => ?_⟩
    obtain ⟨k, rfl⟩ : ∃ m, k = m + 1 := ⟨k - 1, by omega⟩
    have e := e k (by omega)
    dsimp only at e
    simp only [recantref08_Serial.l0]
    rw [if_pos (by omega), if_pos (by omega), if_pos (by omega), w64 (by omega) (by omega), show ((i : Int) + 1) = ((i + 1 : Nat) : Int) by omega, e]
    rfl
theorem pserial (l : List S36) (hl : l.length ≤ 1000) : Ev (fun k => recantref08_Serial.f k l) (!((tabT l).any (apartB l))) := by
  have h1 := pouter l hl l.length 0 (by omega)
  have h2 : outerB l l.length 0 = !((tabT l).any (apartB l)) := by
    have h3 := outer_iff l l.length 0 (by omega)
    have h4 := apart_iff l hl
    have h5 : (outerB l l.length 0 = true) ↔ ((tabT l).any (apartB l) = false) := by
      rw [h3, h4]
      exact ⟨fun h i k a b c => h i (Nat.zero_le _) k a b c, fun h i _ k a b c => h i k a b c⟩
    cases ha : (tabT l).any (apartB l) with
    | false => rw [h5.2 ha]; rfl
    | true =>
      cases ho : outerB l l.length 0 with
      | false => rfl
      | true => rw [h5.1 ho] at ha; cases ha
  rw [h2] at h1
  exact h1
end Go.Proofs.YtkjkceeopkfniaaDoor.U

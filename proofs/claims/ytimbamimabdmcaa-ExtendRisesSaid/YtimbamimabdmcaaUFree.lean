/- extend.free is freeS, where the bits are what is left. -/
import Derived.Test.YtimbamimabdmcaaUExtend
import Derived.Test.YtimbamimabdmcaaP6
namespace Go.Proofs.Ytimbamimabdmcaa.U
set_option linter.unusedVariables false
set_option linter.unusedSimpArgs false
open Go Go.RowKit Go.Proofs.Ytimbamimabdmcaa.P Go.Proofs.YtimbamimabdmcaaW.PrintWords Go.Proofs.YtimbamimabdmcaaW.PrintLast Go.Proofs.YtimbamimabdmcaaW.PrintMore

def freeFrom (l0 row : List Int) (k : Nat) : Nat → Nat → Bool
  | 0, _ => true
  | d + 1, i => (row.contains (i : Int) || !bitB (rd l0 (i : Int)) k) && freeFrom l0 row k d (i + 1)
theorem freeFrom_all (l0 row : List Int) (k d : Nat) : ∀ i, freeFrom l0 row k d i = (List.range' i d).all fun (i : Nat) => row.contains (i : Int) || !bitB (rd l0 (i : Int)) k := by
  induction d with
  | zero => intro i; rfl
  | succ d ih => intro i; rw [List.range'_succ, List.all_cons, ← ih]; rfl
theorem freeFrom_S (l0 row : List Int) (k : Nat) : freeFrom l0 row k l0.length 0 = freeS l0 row k := by
  rw [freeFrom_all, freeS, List.range_eq_range']
theorem left_bit {n : Nat} {m : Int} {row : List Int} (h : Left n m row) (i : Nat) (hi : i < 6) (hn : i < n) : (bitAt m i = 1) ↔ row.contains (i : Int) = false := by
  have h2 := h.2.2 i hi
  rw [bitAt_eq m i h.1 (by have := h.2.1; omega) (by omega)]
  rw [← Bool.not_eq_true, List.contains_iff_mem]
  exact h2.trans ⟨fun x => x.2, fun x => ⟨hn, x⟩⟩
theorem free_ev (l0 row : List Int) (m : Int) (hu : InU l0) (hn : l0.length ≤ 6) (hm : Left l0.length m row) (k : Nat) (hk : k < 6) (d : Nat) : ∀ i : Nat, i + d = l0.length → Ev (fun f => extend_free.l0 f m (k : Int) l0 (l0.length : Int) (i : Int)) (freeFrom l0 row k d i) := by
  induction d with
  | zero =>
    intro i hi
    refine ⟨1, fun f hf => ?_⟩
    obtain ⟨f, rfl⟩ : ∃ m, f = m + 1 := ⟨f - 1, by omega⟩
    simp only [extend_free.l0]
    rw [if_neg (by omega)]; rfl
  | succ d ih =>
    intro i hi
    obtain ⟨K, e⟩ := ih (i + 1) (by omega)
    refine ⟨K + 1, fun f hf => ?_⟩
    obtain ⟨f, rfl⟩ : ∃ m, f = m + 1 := ⟨f - 1, by omega⟩
    simp only [extend_free.l0]
    rw [if_pos (by omega), if_pos (by omega), if_pos (by omega)]
    have e1 := e f (by omega)
    dsimp only at e1
    have h1 : (bits .and .u32 (shr .u32 m (i : Int)) 1 = 1) = (bitAt m i = 1) := by unfold bitAt shr; rw [Int.toNat_natCast]; rfl
    have h2 : (bits .and .u32 (shr .u32 (rd l0 (i : Int)) (k : Int)) 1 = 1) = (bitAt (rd l0 (i : Int)) k = 1) := by unfold bitAt shr; rw [Int.toNat_natCast]; rfl
    have hr := hu (rd l0 (i : Int)) (rd_mem (by omega))
    have hb := bitAt_iff (rd l0 (i : Int)) k hr.1 hr.2 (by omega)
    rw [w64 (by omega) (by omega), show ((i : Int) + 1) = ((i + 1 : Nat) : Int) by omega, e1]
    simp only [h1, h2]
    have hl := left_bit hm i (by omega) (by omega)
    rw [show freeFrom l0 row k (d + 1) i = ((row.contains (i : Int) || !bitB (rd l0 (i : Int)) k) && freeFrom l0 row k d (i + 1)) from rfl]
    by_cases hc : bitAt m i = 1
    · rw [if_pos hc, if_pos (by omega), hl.1 hc, Bool.false_or]
      by_cases h3 : bitAt (rd l0 (i : Int)) k = 1
      · rw [if_pos h3, ← hb, h3]; rfl
      · rw [if_neg h3, ← hb]
        have : (bitAt (rd l0 (i : Int)) k == 1) = false := by simpa using h3
        rw [this]; rfl
    · rw [if_neg hc]
      have : row.contains (i : Int) = true := by
        cases h4 : row.contains (i : Int) with
        | true => rfl
        | false => exact absurd (hl.2 h4) hc
      rw [this]; rfl
theorem free_f (l0 row : List Int) (m : Int) (hu : InU l0) (hn : l0.length ≤ 6) (hm : Left l0.length m row) (k : Nat) (hk : k < 6) : ∃ f, extend_free.f f l0 m (k : Int) = some (freeS l0 row k) := by
  have := free_ev l0 row m hu hn hm k hk l0.length 0 (by omega)
  rw [freeFrom_S] at this
  exact this.rounds
end Go.Proofs.Ytimbamimabdmcaa.U

/- Proved: which read of any transaction is the first that is not of what it may, of any memory, is as the document says, or refused. Condition: the program's table of kinds lies in memory as its text lays it (the card ties that to the text). -/
import Derived.Test.YtkjkceeopkfniaaDoorULegOwn
import Derived.Test.YtkjkceeopkfniaaDoorGLOwn
import Derived.Test.YtkjkceeopkfniaaDoorP4
import Derived.Test.YtkjkceeopkfniaaDoorP5
namespace Go.Proofs.YtkjkceeopkfniaaDoor.Pure
set_option linter.unusedVariables false
set_option linter.unusedSimpArgs false
open Go Go.RowKit Go.Proofs.YtkjkceeopkfniaaDoor.P Go.Proofs.YtkjkceeopkfniaaDoorW.PrintWords Go.Proofs.YtkjkceeopkfniaaDoorW.PrintLast Go.Proofs.YtkjkceeopkfniaaDoorW.PrintMore Go.Proofs.YtkjkceeopkfniaaDoor.U

set_option maxRecDepth 100000 in
theorem alive10 : recantlaw10_alive.f = some true := by decide +kernel
/-- What a memory of values is, as writes. -/
def ofF (m : List Int) : Nat → List S52
  | 0 => []
  | n + 1 => ⟨true, (n : Int), m.getD n 0⟩ :: ofF m n
theorem ofF_len (m : List Int) : ∀ n, (ofF m n).length = n
  | 0 => rfl
  | n + 1 => by show (ofF m n).length + 1 = n + 1; rw [ofF_len m n]
theorem ofF_get (m : List Int) : ∀ (n v : Nat), v < n → getR (ofF m n) (v : Int) = m.getD v 0
  | 0, v, h => absurd h (Nat.not_lt_zero _)
  | n + 1, v, h => by
    show (if (n : Int) = (v : Int) then m.getD n 0 else getR (ofF m n) (v : Int)) = _
    by_cases he : n = v
    · subst he; rw [if_pos rfl]
    · rw [if_neg (by omega), ofF_get m n v (by omega)]
theorem of_loop (m : List Int) (hm : m.length = 8) (d : Nat) : ∀ i : Nat, i + d = 8 → Ev (fun k => recantref10_Of.l0 k m (m.length : Int) (i : Int) (ofF m i)) (ofF m 8) := by
  induction d with
  | zero =>
    intro i hi
    refine ⟨1, fun k hk => ?_⟩
    obtain ⟨k, rfl⟩ : ∃ q, k = q + 1 := ⟨k - 1, by omega⟩
    simp only [recantref10_Of.l0]
    rw [if_neg (by omega), show i = 8 by omega]
  | succ d ih =>
    intro i hi
    obtain ⟨K, e⟩ := ih (i + 1) (by omega)
    refine ⟨K + 1, fun k hk => ?_⟩
    obtain ⟨k, rfl⟩ : ∃ q, k = q + 1 := ⟨k - 1, by omega⟩
    have e := e k (by omega)
    dsimp only at e
    have hl := ofF_len m i
    simp only [recantref10_Of.l0]
    unfold recantref10_Put.f
    rw [if_pos (by omega), if_pos (by omega), if_pos (by omega), Option.bind_some, if_pos (by simp only [List.length_cons, List.length_nil]; omega), Option.bind_some, w64 (by omega) (by omega), show ((i : Int) + 1) = ((i + 1 : Nat) : Int) by omega]
    refine Eq.trans ?_ e
    show recantref10_Of.l0 k m (m.length : Int) ((i + 1 : Nat) : Int) (⟨true, (i : Int), rd m (i : Int)⟩ :: ofF m i) = recantref10_Of.l0 k m (m.length : Int) ((i + 1 : Nat) : Int) (⟨true, (i : Int), m.getD i 0⟩ :: ofF m i)
    unfold rd
    rw [Int.toNat_natCast]
theorem of_ev (m : List Int) (hm : m.length = 8) : Ev (fun k => recantref10_Of.f k m) (ofF m 8) := of_loop m hm 8 0 (by omega)
theorem rel_of (m : List Int) (hm : m.length = 8) : Rel m (ofF m 8) := ⟨hm, fun v hv => (ofF_get m 8 v hv).symm⟩
theorem look_none (m : List Int) (x5 x6 : Int) (f0 f1 f2 f3 : Int) (ops : List S52) (hl : ops.length ≤ 1000) (r : Bool) (hend : Ev (fun k => (recantlaw10_alive.f).bind fun t174 => (if t174 = true then (if x6 = 0 then ((recantref10_Of.f k m).bind fun t175 => ((recantref10_Own.f k ops t175).bind fun t178 => (some (x5 == t178)))) else (some false)) else (some false))) r) (hno : ∀ o ∈ ops, 0 ≤ o.f1 ∧ o.f1 < 8) (d : Nat) : ∀ i : Nat, i + d = ops.length → Ev (fun k => recantlaw10_LegalOwn.l0 k m x5 x6 ops (ops.length : Int) (i : Int) f0 f1 f2 f3 ops) r := by
  induction d with
  | zero =>
    intro i hi
    obtain ⟨K, e⟩ := hend
    refine ⟨K + 1, fun k hk => ?_⟩
    obtain ⟨k, rfl⟩ : ∃ q, k = q + 1 := ⟨k - 1, by omega⟩
    have e := e k (by omega)
    simp only [recantlaw10_LegalOwn.l0]
    rw [if_neg (by omega)]
    exact e
  | succ d ih =>
    intro i hi
    obtain ⟨K, e⟩ := ih (i + 1) (by omega)
    refine ⟨K + 1, fun k hk => ?_⟩
    obtain ⟨k, rfl⟩ : ∃ q, k = q + 1 := ⟨k - 1, by omega⟩
    have e := e k (by omega)
    dsimp only at e
    have hil : i < ops.length := by omega
    have hv := hno ops[i] (List.getElem_mem hil)
    simp only [recantlaw10_LegalOwn.l0]
    rw [if_pos (by omega), if_pos (by omega), if_pos (by omega), rdOp ops i hil, if_neg (by omega), if_neg (by omega), w64 (by omega) (by omega), show ((i : Int) + 1) = ((i + 1 : Nat) : Int) by omega]
    exact e
theorem look_some (m : List Int) (f0 f1 f2 f3 : Int) (ops : List S52) (hl : ops.length ≤ 1000) (d : Nat) : ∀ i : Nat, i + d = ops.length → (ops.drop i).any oddO = true → Ev (fun k => recantlaw10_LegalOwn.l0 k m 0 7 ops (ops.length : Int) (i : Int) f0 f1 f2 f3 ops) true := by
  induction d with
  | zero =>
    intro i hi ho
    rw [List.drop_eq_nil_of_le (by omega)] at ho
    cases ho
  | succ d ih =>
    intro i hi ho
    have hil : i < ops.length := by omega
    rw [List.drop_eq_getElem_cons hil, List.any_cons] at ho
    by_cases h1 : (ops[i]).f1 < 0
    · refine ⟨1, fun k hk => ?_⟩
      obtain ⟨k, rfl⟩ : ∃ q, k = q + 1 := ⟨k - 1, by omega⟩
      simp only [recantlaw10_LegalOwn.l0]
      rw [if_pos (by omega), if_pos (by omega), if_pos (by omega), rdOp ops i hil, if_pos h1, alive10]
      rfl
    · by_cases h2 : (ops[i]).f1 > 7
      · refine ⟨1, fun k hk => ?_⟩
        obtain ⟨k, rfl⟩ : ∃ q, k = q + 1 := ⟨k - 1, by omega⟩
        simp only [recantlaw10_LegalOwn.l0]
        rw [if_pos (by omega), if_pos (by omega), if_pos (by omega), rdOp ops i hil, if_neg h1, if_pos h2, alive10]
        rfl
      · have hod : oddO ops[i] = false := by unfold oddO; rw [decide_eq_false h1, decide_eq_false (by omega)]; rfl
        rw [hod, Bool.false_or] at ho
        obtain ⟨K, e⟩ := ih (i + 1) (by omega) ho
        refine ⟨K + 1, fun k hk => ?_⟩
        obtain ⟨k, rfl⟩ : ∃ q, k = q + 1 := ⟨k - 1, by omega⟩
        have e := e k (by omega)
        dsimp only at e
        simp only [recantlaw10_LegalOwn.l0]
        rw [if_pos (by omega), if_pos (by omega), if_pos (by omega), rdOp ops i hil, if_neg h1, if_neg h2, w64 (by omega) (by omega), show ((i : Int) + 1) = ((i + 1 : Nat) : Int) by omega]
        exact e
theorem LegalOwn (f0 f1 f2 f3 : Int) (l0 : List S52) (l1 : List Int) (x1 : l1.length ≤ 9223372036854775807) : ∃ k, recantlaw10_LegalOwn.f k f0 f1 f2 f3 l0 l1 = some true := by
  have hm0 : (mn (l0.length : Int) 60).toNat ≤ 60 ∧ 0 ≤ mn (l0.length : Int) 60 ∧ mn (l0.length : Int) 60 ≤ l0.length := by unfold mn; split <;> omega
  have hm1 : (mn (l1.length : Int) 12).toNat ≤ 12 ∧ 0 ≤ mn (l1.length : Int) 12 ∧ mn (l1.length : Int) 12 ≤ l1.length := by unfold mn; split <;> omega
  obtain ⟨ops, hops⟩ : ∃ b, b = l0.take (mn (l0.length : Int) 60).toNat := ⟨_, rfl⟩
  obtain ⟨m, hm⟩ : ∃ row, row = l1.take (mn (l1.length : Int) 12).toNat := ⟨_, rfl⟩
  have hol : ops.length ≤ 60 := by rw [hops, List.length_take]; omega
  have hstart : ∀ k, recantlaw10_LegalOwn.f k f0 f1 f2 f3 l0 l1 = if (m.length : Int) = 8 then recantlaw10_LegalOwn.l0 k m (ownV ops m).1 (ownV ops m).2 ops (ops.length : Int) 0 f0 f1 f2 f3 ops else (recantlaw10_alive.f).bind fun t169 => (if t169 = true then (if (ownV ops m).2 = 1 then (some ((ownV ops m).1 == 0)) else (some false)) else (some false)) := by
    intro k
    unfold recantlaw10_LegalOwn.f legal_Own.f
    rw [if_pos hm0.2.1, if_pos hm0.2.2, ← hops, Option.bind_some, if_pos hm1.2.1, if_pos hm1.2.2, ← hm, Option.bind_some, Option.bind_some]
  by_cases h8 : m.length = 8
  · cases ho : ops.any oddO with
    | true =>
      have hv : ownV ops m = (0, 7) := by unfold ownV; rw [if_neg (by simpa using h8), ho, if_pos rfl]
      obtain ⟨K, e⟩ := look_some m f0 f1 f2 f3 ops (by omega) ops.length 0 (by omega) (by rw [List.drop_zero]; exact ho)
      refine ⟨K, ?_⟩
      rw [hstart, if_pos (by omega), hv]
      exact e K (Nat.le_refl _)
    | false =>
      have hv : ownV ops m = (((ownM ops m : Nat) : Int), 0) := by unfold ownV; rw [if_neg (by simpa using h8), ho, if_neg Bool.false_ne_true]
      have hno := odd_none ho
      obtain ⟨K1, e1⟩ := of_ev m h8
      obtain ⟨K2, e2⟩ := own_ev ops (ofF m 8) m (rel_of m h8) hno (by rw [ofF_len]; omega)
      obtain ⟨K, e⟩ := look_none m ((ownM ops m : Nat) : Int) 0 f0 f1 f2 f3 ops (by omega) true ⟨max K1 K2, fun k hk => by
        have e1 := e1 k (by omega)
        have e2 := e2 k (by omega)
        dsimp only at e1 e2 ⊢
        rw [alive10, Option.bind_some, if_pos rfl, if_pos rfl, e1, Option.bind_some, e2, Option.bind_some]
        simp⟩ hno ops.length 0 (by omega)
      refine ⟨K, ?_⟩
      rw [hstart, if_pos (by omega), hv]
      exact e K (Nat.le_refl _)
  · have hv : ownV ops m = (0, 1) := by unfold ownV; rw [if_pos (by simpa using h8)]
    refine ⟨0, ?_⟩
    rw [hstart, if_neg (by omega), hv, alive10]
    rfl
end Go.Proofs.YtkjkceeopkfniaaDoor.Pure

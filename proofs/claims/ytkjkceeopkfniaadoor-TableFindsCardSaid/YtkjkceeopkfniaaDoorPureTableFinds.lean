/- Proved: where a transaction of any name is, and which two rows of transactions are the same, is as the document says. Condition: the program's table of kinds lies in memory as its text lays it (the card ties that to the text). -/
import Derived.Test.YtkjkceeopkfniaaDoorGFind
import Derived.Test.YtkjkceeopkfniaaDoorGSame
import Derived.Test.YtkjkceeopkfniaaDoorGLike
import Derived.Test.YtkjkceeopkfniaaDoorP5
namespace Go.Proofs.YtkjkceeopkfniaaDoor.Pure
set_option linter.unusedVariables false
set_option linter.unusedSimpArgs false
open Go Go.RowKit Go.Proofs.YtkjkceeopkfniaaDoor.P Go.Proofs.YtkjkceeopkfniaaDoorW.PrintWords Go.Proofs.YtkjkceeopkfniaaDoorW.PrintLast Go.Proofs.YtkjkceeopkfniaaDoorW.PrintMore Go.Proofs.YtkjkceeopkfniaaDoor.U

theorem alive06 : recantlaw06_alive.f = some true := by decide +kernel
theorem eqO_refl (x : S52) : eqO x x = true := by unfold eqO; simp
theorem eqOs_refl : ∀ l : List S52, eqOs l l = true
  | [] => rfl
  | x :: t => by show (eqO x x && eqOs t t) = true; rw [eqO_refl, eqOs_refl t]; rfl
theorem eqTs_refl : ∀ l : List S34, eqTs l l = true
  | [] => rfl
  | x :: t => by
    show (eqT x x && eqTs t t) = true
    rw [eqTs_refl t]
    unfold eqT
    rw [eqOs_refl]
    simp
theorem few_run (d : Nat) : ∀ (k i : Nat) (out l : List S34), i + d = l.length → out.length + d ≤ 10 → l.length ≤ 10 → d + 1 ≤ k → ∃ r, recantlaw06_few.l0 k out l (l.length : Int) (i : Int) = some r ∧ r.length ≤ 10 := by
  induction d with
  | zero =>
    intro k i out l hi ho hl hk
    obtain ⟨k, rfl⟩ : ∃ m, k = m + 1 := ⟨k - 1, by omega⟩
    simp only [recantlaw06_few.l0]
    rw [if_neg (by omega)]
    exact ⟨out, rfl, by omega⟩
  | succ d ih =>
    intro k i out l hi ho hl hk
    obtain ⟨k, rfl⟩ : ∃ m, k = m + 1 := ⟨k - 1, by omega⟩
    have hmn : 0 ≤ mn (((rd_T34 l (i : Int)).f4).length : Int) 65 ∧ mn (((rd_T34 l (i : Int)).f4).length : Int) 65 ≤ (((rd_T34 l (i : Int)).f4).length : Int) := by unfold mn; split <;> omega
    simp only [recantlaw06_few.l0]
    rw [if_pos (by omega), if_pos (by omega), if_pos (by omega), if_pos hmn.1, if_pos hmn.2, if_pos (by omega), w64 (by omega) (by omega), show ((i : Int) + 1) = ((i + 1 : Nat) : Int) by omega]
    exact ih k (i + 1) _ l (by omega) (by rw [List.length_append, List.length_singleton]; omega) hl (by omega)
theorem few_fun (l : List S34) : ∃ r, recantlaw06_few.f 100 l = some r ∧ r.length ≤ 10 := by
  have hmn : 0 ≤ mn (l.length : Int) 10 ∧ mn (l.length : Int) 10 ≤ (l.length : Int) ∧ (mn (l.length : Int) 10).toNat ≤ 10 := by unfold mn; split <;> omega
  unfold recantlaw06_few.f
  rw [if_pos hmn.1, if_pos hmn.2.1, Option.bind_some]
  obtain ⟨y, hy⟩ : ∃ y, y = l.take (mn (l.length : Int) 10).toNat := ⟨_, rfl⟩
  rw [← hy]
  have hyl : y.length ≤ 10 := by rw [hy, List.length_take]; omega
  exact few_run y.length 100 0 [] y (by omega) (by simpa using hyl) hyl (by omega)
theorem find_at (n : Int) (l : List S34) (hl : l.length ≤ 10) (d : Nat) : ∀ (k i : Nat), i + d = l.length → d + 1 ≤ k → recantref06_Find.l0 k n l (l.length : Int) (i : Int) = some (idxQ (isN n) (l.drop i) i) := by
  induction d with
  | zero =>
    intro k i hi hk
    obtain ⟨k, rfl⟩ : ∃ m, k = m + 1 := ⟨k - 1, by omega⟩
    simp only [recantref06_Find.l0]
    rw [if_neg (by omega), List.drop_eq_nil_of_le (by omega)]
    rfl
  | succ d ih =>
    intro k i hi hk
    obtain ⟨k, rfl⟩ : ∃ m, k = m + 1 := ⟨k - 1, by omega⟩
    simp only [recantref06_Find.l0]
    rw [if_pos (by omega), if_pos (by omega), if_pos (by omega), w64 (by omega) (by omega), show ((i : Int) + 1) = ((i + 1 : Nat) : Int) by omega, ih k (i + 1) (by omega) (by omega), idxQ_drop (isN n) l i (by omega)]
    unfold isN
    by_cases h : (rd_T34 l (i : Int)).f0 = n
    · rw [if_pos h, if_pos (beq_iff_eq.2 h)]
    · rw [if_neg h, if_neg (by rw [beq_iff_eq]; exact h)]
theorem find_fun (n : Int) (l : List S34) (hl : l.length ≤ 10) (k : Nat) (hk : 12 ≤ k) : recantref06_Find.f k l n = some (idxQ (isN n) l 0) := by
  unfold recantref06_Find.f
  exact find_at n l hl l.length k 0 (by omega) (by omega)
theorem TableFinds (l0 : List S34) (h0 : l0.length ≤ 9223372036854775807) (l1 : List S34) (h1 : l1.length ≤ 9223372036854775807) (a : Int) (w : (Lit.int .i64 a).wf = true) : ∃ k, recantlaw06_TableFinds.f k l0 l1 a = some true := by
  obtain ⟨x, hx, hxl⟩ := few_fun l0
  obtain ⟨y, hy, _⟩ := few_fun l1
  have hf := find_fun a x hxl 99 (by omega)
  refine ⟨100, ?_⟩
  unfold recantlaw06_TableFinds.f
  rw [hx, Option.bind_some, hy, Option.bind_some]
  have hb : (eqTs x y != eqTs x y) = false := bne_self_eq_false _
  unfold table_Find.f table_Like.f recantref06_Same.f
  simp only [Option.bind_some]
  rw [hb, if_neg Bool.false_ne_true, eqTs_refl, if_pos rfl, alive06, Option.bind_some]
  simp only [recantlaw06_TableFinds.j0]
  rw [hf]
  by_cases hi : idxQ (isN a) x 0 < 0
  · rw [if_pos hi]
    simp [hi]
  · rw [if_neg hi]
    simp [hi]
end Go.Proofs.YtkjkceeopkfniaaDoor.Pure

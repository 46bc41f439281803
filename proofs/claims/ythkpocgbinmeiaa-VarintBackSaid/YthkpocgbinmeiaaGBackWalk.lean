/- The walk of VarintBack's row, out of its printed contract (its arguments are told as shared). -/
import Derived.Test.YthkpocgbinmeiaaP5
import Derived.Test.YthkpocgbinmeiaaUNum
namespace Go.Proofs.Ythkpocgbinmeiaa.P
set_option linter.unusedVariables false
set_option linter.unusedSimpArgs false
open Go Go.RowKit Go.Proofs.Ythkpocgbinmeiaa.U Go.Proofs.YthkpocgbinmeiaaW.PrintWords Go.Proofs.YthkpocgbinmeiaaW.PrintLast Go.Proofs.YthkpocgbinmeiaaW.PrintMore

theorem V_of_reads {k : IntKind} {w : World} {A : Option Addr} {n c e base : Nat} {xs : List Int} (h : ReadsInt w k A n xs) (hc : n ≤ c) : Kd.V (Kd.int k) e w base (fun j => j < w.heap.size) (.slice A n c) xs := by
  obtain ⟨hl, hm, hn⟩ := h
  subst hl
  refine ⟨A, c, rfl, hc, fun W' hW => Kd.C_of_reads (d := (0 : Int)) (h1 := fun _ => rfl) ⟨rfl, hm, fun hp => ?_⟩⟩
  obtain ⟨ad, e, hcell⟩ := hn hp
  refine ⟨ad, e, fun j hj => ?_⟩
  have h1 := hcell j hj
  have h2 := World.block_lt_of_cell? w _ h1
  simp only [World.cell?] at h1 ⊢
  rw [hW _ h2 h2]
  exact h1
def recantlaw03_VarintBack.Pure : Prop := ∀ (a0 : Int) (a1 : Int) (l2 : List Int) (l3 : List Int), (Lit.int .u64 a0).wf = true → (Lit.int .i64 a1).wf = true → l2.length ≤ maxLen → l2.length * 1 ≤ 140737488351232 → (∀ x ∈ l2, (Lit.int .u8 x).wf = true) → l3.length ≤ maxLen → l3.length * 1 ≤ 140737488351232 → (∀ x ∈ l3, (Lit.int .u8 x).wf = true) → ∃ k, recantlaw03_VarintBack.f k a0 a1 l2 l3 = some true
theorem recantlaw03_VarintBack.walk (P : recantlaw03_VarintBack.Pure) (a0 : Int) (a1 : Int) (a2 : Option Addr) (len2 cap2 : Nat) (z2 : List Int) (a3 : Option Addr) (len3 cap3 : Nat) (z3 : List Int) (w : World) (w0 : (Lit.int .u64 a0).wf = true) (w1 : (Lit.int .i64 a1).wf = true)
    (w2 : (a2 = none ∧ len2 = 0 ∧ cap2 = 0 ∧ z2 = []) ∨ ∃ x, a2 = some x ∧ len2 ≤ cap2 ∧ cap2 ≤ maxLen ∧ z2.length = cap2 ∧ (∀ i, i < z2.length → w.cell? (x.add i) = some (.int .u8 (z2.getD i 0))) ∧ ∀ n ∈ z2, (Lit.int .u8 n).wf = true) (y2 : len2 * 1 ≤ 140737488351232)
    (w3 : (a3 = none ∧ len3 = 0 ∧ cap3 = 0 ∧ z3 = []) ∨ ∃ x, a3 = some x ∧ len3 ≤ cap3 ∧ cap3 ≤ maxLen ∧ z3.length = cap3 ∧ (∀ i, i < z3.length → w.cell? (x.add i) = some (.int .u8 (z3.getD i 0))) ∧ ∀ n ∈ z3, (Lit.int .u8 n).wf = true) (y3 : len3 * 1 ≤ 140737488351232) :
    Calls Try.prog 6 #[.int .u64 a0, .int .i64 a1, .slice a2 len2 cap2, .slice a3 len3 cap3] w fun e w' => e = .returned (.bool true) ∧ Below w.heap.size w w' := by
  obtain ⟨l2, rfl, hr2, hm2, hw2, hc2⟩ := ReadsInt.ofRowC w2
  obtain ⟨l3, rfl, hr3, hm3, hw3, hc3⟩ := ReadsInt.ofRowC w3
  obtain ⟨k, h⟩ := P a0 a1 l2 l3 w0 w1 hm2 y2 hw2 hm3 y3 hw3
  exact recantlaw03_VarintBack.calls k a0 a1 _ _ _ l2 _ _ _ l3 true w (V_of_reads hr2 hc2) (V_of_reads hr3 hc3) h
end Go.Proofs.Ythkpocgbinmeiaa.P

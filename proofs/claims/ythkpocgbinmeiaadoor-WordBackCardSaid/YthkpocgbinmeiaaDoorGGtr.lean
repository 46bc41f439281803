/- a > b of strings: the walk's step. -/
import Derived.Test.YthkpocgbinmeiaaDoorProg
import Derived.Test.YthkpocgbinmeiaaDoorP0
namespace Go.Proofs.YthkpocgbinmeiaaDoor.P
set_option linter.unusedVariables false
open Go Go.RowKit Go.Proofs.YthkpocgbinmeiaaDoorW.PrintWords Go.Proofs.YthkpocgbinmeiaaDoorW.PrintLast Go.Proofs.YthkpocgbinmeiaaDoorW.PrintMore

theorem less_gt : ∀ a b : List UInt8, (!(Op.bytesLess a b || a == b)) = Op.bytesLess b a := by
  intro a
  induction a with
  | nil => intro b; cases b <;> rfl
  | cons c a ih =>
    intro b
    cases b with
    | nil => rfl
    | cons d b =>
      have e := ih b
      unfold Op.bytesLess
      rw [← e]
      rw [show ((c :: a) == (d :: b)) = (c == d && a == b) from rfl]
      by_cases h1 : c.toNat < d.toNat
      · have hc : c < d := UInt8.lt_iff_toNat_lt.2 h1
        have hd : ¬ d < c := fun h => by rw [UInt8.lt_iff_toNat_lt] at h; omega
        have hne : (d == c) = false := by rw [beq_eq_false_iff_ne]; rintro rfl; omega
        simp [hc, hd, hne]
      · have hc : ¬ c < d := fun h => by rw [UInt8.lt_iff_toNat_lt] at h; omega
        by_cases h2 : c = d
        · subst h2; simp [hc]
        · have hd : d < c := by
            rw [UInt8.lt_iff_toNat_lt]
            have : c.toNat ≠ d.toNat := fun h => h2 (UInt8.toNat_inj.1 h)
            omega
          have hne : (c == d) = false := by rw [beq_eq_false_iff_ne]; exact h2
          simp [hc, hd, hne]
theorem gtr_run (t : TypeId) (a b : ByteArray) (w : World) : (Go.binOp .gtr t (.string a) (.string b)).run Tryd.prog w = .ok (.bool (Op.bytesLess b.toList a.toList)) w := by
  rw [← less_gt]
  simp [Go.binOp, Op.stringOp]
end Go.Proofs.YthkpocgbinmeiaaDoor.P

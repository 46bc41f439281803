/- Proved: with one event more the bytes behind how many there are begin as they did. Condition: the program's table of kinds lies in memory as its text lays it (the card ties that to the text). -/
import Derived.Test.YthkpocgbinmeiaaDoorUBinP
import Derived.Test.YthkpocgbinmeiaaDoorP9
namespace Go.Proofs.YthkpocgbinmeiaaDoor.Pure
set_option linter.unusedVariables false
set_option linter.unusedSimpArgs false
open Go Go.RowKit Go.Proofs.YthkpocgbinmeiaaDoor.P Go.Proofs.YthkpocgbinmeiaaDoorW.PrintWords Go.Proofs.YthkpocgbinmeiaaDoorW.PrintLast Go.Proofs.YthkpocgbinmeiaaDoorW.PrintMore Go.Proofs.YthkpocgbinmeiaaDoor.U

theorem alive04 : recantlaw04_alive.f = some true := by decide +kernel
theorem print_acc (l : List S34) : ∀ acc : List Int, printL acc l = acc ++ printL [] l := by
  induction l with
  | nil => intro acc; simp [printL]
  | cons e t ih =>
    intro acc
    show printL ((acc ++ putN (bodyL e).length) ++ bodyL e) t = acc ++ printL (([] ++ putN (bodyL e).length) ++ bodyL e) t
    rw [ih, ih (([] ++ putN (bodyL e).length) ++ bodyL e)]
    simp
theorem print_snoc (l : List S34) (e : S34) : ∀ acc : List Int, printL acc (l ++ [e]) = printL acc l ++ (putN (bodyL e).length ++ bodyL e) := by
  induction l with
  | nil => intro acc; show printL ((acc ++ putN (bodyL e).length) ++ bodyL e) [] = acc ++ _; simp [printL]
  | cons x t ih => intro acc; exact ih _
theorem put_small (n : Nat) (h : n < 128) : (putN n).length = 1 := by
  unfold putN
  rw [dif_pos (by omega)]; rfl
theorem pre_ok (a b : List Int) : bytes_HasPrefix.f (a ++ b) a = some true := by
  unfold bytes_HasPrefix.f bytes_Equal.f
  rw [if_pos (by rw [List.length_append]; omega), if_pos (by omega), if_pos (by rw [List.length_append]; omega), Int.toNat_natCast, List.take_left]
  simp
theorem BinaryGrows (l : List S34) (f0 f1 f2 f3 : Int) : ∃ k, recantlaw04_BinaryGrows.f k l f0 f1 f2 f3 = some true := by
  have hmn : (mn (l.length : Int) 59).toNat ≤ 59 ∧ 0 ≤ mn (l.length : Int) 59 ∧ mn (l.length : Int) 59 ≤ l.length := by unfold mn; split <;> omega
  obtain ⟨h, hh⟩ : ∃ h, h = l.take (mn (l.length : Int) 59).toNat := ⟨_, rfl⟩
  have hhl : h.length ≤ 59 := by rw [hh, List.length_take]; omega
  obtain ⟨e, he⟩ : ∃ e : S34, e = ⟨f0, f1, f2, f3⟩ := ⟨_, rfl⟩
  have hbl : (h ++ [e]).length = h.length + 1 := by simp
  have pre : ∀ k, recantlaw04_BinaryGrows.f k l f0 f1 f2 f3 = (binary_Print.f k h).bind fun bt281 => (binary_Print.f k (h ++ [e])).bind fun bt297 => (if bt281.2 = 0 then (recantlaw04_BinaryGrows.j0 k h bt281.1 bt281.2 bt297.1 (bt297.2 != 0)) else (recantlaw04_BinaryGrows.j0 k h bt281.1 bt281.2 bt297.1 true)) := by
    intro k
    unfold recantlaw04_BinaryGrows.f
    rw [if_pos hmn.2.1, if_pos hmn.2.2, Option.bind_some, ← hh, ← he]
    congr 1
    funext bt
    rw [Option.bind_some, List.nil_append, if_pos (by simp; omega), Option.bind_some, Option.bind_some, if_pos (by simp; omega)]
  have gone : ∀ (k : Nat) (x7 : List Int) (p : List Int × Int), p.2 ≠ 0 → recantlaw04_BinaryGrows.j0 (k + 1) h p.1 p.2 x7 true = some true := by
    intro k x7 p hp
    simp only [recantlaw04_BinaryGrows.j0]
    rw [if_pos trivial, alive04, Option.bind_some, if_pos rfl, if_neg hp]
  cases hr : rightsB h with
  | false =>
    cases hs : rightsB (h ++ [e]) with
    | false =>
      refine ⟨1, ?_⟩
      rw [pre, oprint_no h hr, Option.bind_some, oprint_no _ hs, Option.bind_some, if_neg (by decide)]
      exact gone 0 [] ([], 1) (by decide)
    | true =>
      obtain ⟨K, e1⟩ := oprint_f (h ++ [e]) (by omega) hs
      refine ⟨K + 1, ?_⟩
      have e1 := e1 (K + 1) (by omega)
      dsimp only at e1
      rw [pre, oprint_no h hr, Option.bind_some, e1, Option.bind_some, if_neg (by decide)]
      exact gone K _ ([], 1) (by decide)
  | true =>
    obtain ⟨K, e1⟩ := oprint_f h (by omega) hr
    cases hs : rightsB (h ++ [e]) with
    | false =>
      refine ⟨K + 1, ?_⟩
      have e1 := e1 (K + 1) (by omega)
      dsimp only at e1
      rw [pre, e1, Option.bind_some, oprint_no _ hs, Option.bind_some, if_pos rfl]
      simp only [recantlaw04_BinaryGrows.j0]
      rw [if_pos (by decide), alive04, Option.bind_some, if_pos rfl, if_pos trivial]
      rfl
    | true =>
      obtain ⟨K2, e2⟩ := oprint_f (h ++ [e]) (by omega) hs
      refine ⟨K + K2 + 1, ?_⟩
      have e1 := e1 (K + K2 + 1) (by omega)
      have e2 := e2 (K + K2 + 1) (by omega)
      dsimp only at e1 e2
      rw [pre, e1, Option.bind_some, e2, Option.bind_some, if_pos rfl, hbl]
      have p1 := put_small h.length (by omega)
      have p2 := put_small (h.length + 1) (by omega)
      obtain ⟨z, hz⟩ : ∃ z, z = putN (bodyL e).length ++ bodyL e := ⟨_, rfl⟩
      have hzl : 1 ≤ z.length := by
        rw [hz, List.length_append]
        have : 1 ≤ (bodyL e).length := by unfold bodyL; simp only [List.length_append, List.length_cons, List.length_nil]; omega
        omega
      have ea : printL (putN h.length) h = putN h.length ++ printL [] h := print_acc h _
      have eb : printL (putN (h.length + 1)) (h ++ [e]) = putN (h.length + 1) ++ (printL [] h ++ z) := by rw [print_acc, print_snoc, hz]
      rw [ea, eb]
      simp only [recantlaw04_BinaryGrows.j0]
      rw [if_neg (by decide), wu64 (by omega) (by omega), put_f h.length (by omega), Option.bind_some, w64 (by omega) (by omega), wu64 (by omega) (by omega), show ((h.length : Int) + 1) = ((h.length + 1 : Nat) : Int) by omega, put_f (h.length + 1) (by omega), Option.bind_some, alive04, Option.bind_some, if_pos rfl,
        if_pos (by rw [List.length_append]; omega), if_pos (by rw [List.length_append]; omega), if_pos (by omega), if_pos (by rw [List.length_append]; omega), if_pos (by omega), if_pos (by rw [List.length_append]; omega), Int.toNat_natCast, Int.toNat_natCast, List.drop_left, List.drop_left, pre_ok, Option.bind_some, if_pos rfl]
      congr 1
      rw [decide_eq_true_iff]
      simp only [List.length_append]
      omega
end Go.Proofs.YthkpocgbinmeiaaDoor.Pure

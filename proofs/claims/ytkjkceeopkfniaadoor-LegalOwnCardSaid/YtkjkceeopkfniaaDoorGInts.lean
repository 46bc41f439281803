/- A slice of whole numbers that came in, opened. -/
import Derived.Test.YtkjkceeopkfniaaDoorGEvs
import Derived.ChangeSlices
namespace Go.Proofs.YtkjkceeopkfniaaDoor.P
set_option linter.unusedVariables false
set_option linter.unusedSimpArgs false
open Go Go.RowKit Go.ChangeShapes Go.WideShapes Go.Proofs.YtkjkceeopkfniaaDoorW.PrintWords Go.Proofs.YtkjkceeopkfniaaDoorW.PrintLast Go.Proofs.YtkjkceeopkfniaaDoorW.PrintMore Go.Proofs.YtkjkceeopkfniaaDoor.U

section
variable {H : Type} {enc : TypeId × Value → H} {W : World} {base : Nat} {spare : Nat → Bool} {held : Bool}
theorem ints_of {fuel : Nat} {a0 : Option Addr} {len cap : Nat} {x : DataW H × List MemPlace} (hmax : len ≤ 9223372036854775807) (h : DataW.trod enc Tryd.prog W base spare held fuel 49 [.slice a0 len cap] = some x) :
    ∃ l : List Int, l.length = len ∧ len ≤ cap ∧ Kd.C (Kd.int .i64) W a0 len l := by
  rcases open_ints Tryd.underlying49 Tryd.underlying3 off0 h with ⟨h0, _⟩ | ⟨a, l2, c2, zs, hcs, hb, hl, hm, hz, _, hc, _⟩
  · simp only [List.cons.injEq, and_true, Value.slice.injEq] at h0
    obtain ⟨rfl, rfl, rfl⟩ := h0
    exact ⟨[], rfl, Nat.le_refl _, ⟨rfl, by omega, fun h => absurd h (by omega)⟩⟩
  · simp only [List.cons.injEq, and_true, Value.slice.injEq] at hcs
    obtain ⟨rfl, rfl, rfl⟩ := hcs
    have hlm : len ≤ zs.length := by rw [hz]; split <;> omega
    have htl : (zs.take len).length = len := by rw [List.length_take]; omega
    refine ⟨zs.take len, htl, hl, ⟨htl, hmax, fun _ => ⟨a, rfl, ?_⟩⟩⟩
    intro j p hj
    have hjl : j < len := by
      have := (List.getElem?_eq_some_iff.1 hj).1
      omega
    have hp : zs.getD j 0 = p := by
      rw [List.getElem?_take_of_lt hjl] at hj
      rw [List.getD_eq_getElem?_getD, hj]
      rfl
    refine ⟨[.int .i64 p], rfl, rfl, fun q u hq => ?_⟩
    have hq0 : q = 0 := by
      have := (List.getElem?_eq_some_iff.1 hq).1
      simpa using this
    subst hq0
    have hu : u = .int .i64 p := (Option.some.inj hq).symm
    rw [hu, ← hp]
    have h9 := hc j (by omega)
    rw [show (Kd.int .i64).sz = 1 from rfl, Nat.mul_one, Nat.add_zero]
    exact h9
end
end Go.Proofs.YtkjkceeopkfniaaDoor.P

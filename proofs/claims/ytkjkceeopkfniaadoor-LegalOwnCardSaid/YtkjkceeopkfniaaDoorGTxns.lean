/- A slice of transactions that came in, opened. -/
import Derived.Test.YtkjkceeopkfniaaDoorGEvs
namespace Go.Proofs.YtkjkceeopkfniaaDoor.P
set_option linter.unusedVariables false
set_option linter.unusedSimpArgs false
open Go Go.RowKit Go.ChangeShapes Go.WideShapes Go.Proofs.YtkjkceeopkfniaaDoorW.PrintWords Go.Proofs.YtkjkceeopkfniaaDoorW.PrintLast Go.Proofs.YtkjkceeopkfniaaDoorW.PrintMore Go.Proofs.YtkjkceeopkfniaaDoor.U

theorem len5 {α : Type} {l : List α} (h : l.length = 5) : ∃ a b c d e, l = [a, b, c, d, e] := by
  match l, h with
  | [a, b, c, d, e], _ => exact ⟨a, b, c, d, e, rfl⟩
theorem cellsO : (Tryd.prog.cellsOf 52) = 3 := by kernel_rfl
theorem cellsX : (Tryd.prog.cellsOf 34) = 5 := by kernel_rfl
theorem offB : (Tryd.prog.cellsOf 4) = 1 := by kernel_rfl
theorem offL : (Tryd.prog.cellsOf 32) = 1 := by kernel_rfl
section
variable {H : Type} {enc : TypeId × Value → H} {W : World} {base : Nat} {spare : Nat → Bool} {held : Bool}
/-- One operation, from its reading. -/
theorem op_of {fuel : Nat} {cs : List Value} {x : DataW H × List MemPlace} (h : DataW.trod enc Tryd.prog W base spare held fuel 52 cs = some x) :
    ∃ e : S52, cs = [.bool e.f0, .int .i64 e.f1, .int .i64 e.f2] := by
  obtain ⟨xs, m, _, _, hl, hxl, hf⟩ := DataW.trod_struct Tryd.underlying52 h
  obtain ⟨v0, v1, v2, rfl⟩ := len3 (hl.trans cellsO)
  obtain ⟨y0, y1, y2, rfl⟩ := len3 hxl
  have g0 := hf 0 _ rfl
  have g1 := hf 1 _ rfl
  have g2 := hf 2 _ rfl
  simp [off0, offB] at g0 g1 g2
  obtain ⟨n0, e0, _⟩ := DataW.trod_bool Tryd.underlying4 g0
  obtain ⟨n1, e1, _, w1⟩ := DataW.trod_int Tryd.underlying3 g1
  obtain ⟨n2, e2, _, w2⟩ := DataW.trod_int Tryd.underlying3 g2
  simp only [List.cons.injEq, and_true] at e0 e1 e2
  subst e0 e1 e2
  exact ⟨⟨n0, n1, n2⟩, rfl⟩
/-- A slice of operations. -/
theorem ops_of {fuel : Nat} {cs : List Value} {x : DataW H × List MemPlace} (h : DataW.trod enc Tryd.prog W base spare held fuel 32 cs = some x) :
    ∃ (l : List S52) (A : Option Addr) (cap : Nat), cs = [.slice A l.length cap] ∧ l.length ≤ cap ∧ Kd.C k52 W A l.length l := by
  rcases Go.Deep.open_slice Tryd.underlying32 h with ⟨h0, _⟩ | ⟨a, len, cap, m, n, D, Pl, hcs, hb, hl, hm, hmm, _, hx⟩
  · exact ⟨[], none, 0, h0, Nat.le_refl _, ⟨rfl, by simp, fun h => absurd h (by simp)⟩⟩
  · have hlm : len ≤ m := by rw [hmm]; split <;> omega
    have hmax : len ≤ 9223372036854775807 := by unfold maxLen at hm; omega
    have each : ∀ i, ∃ e : S52, i < len → ∀ j u, [Value.bool e.f0, .int .i64 e.f1, .int .i64 e.f2][j]? = some u → W.cell? (a.add (i * 3 + j)) = some u := by
      intro i
      by_cases hi : i < len
      · obtain ⟨cs', h1, h2⟩ := hx i (by omega)
        rw [cellsO] at h1
        obtain ⟨_, hlen, hcell⟩ := World.cells?_some h1
        obtain ⟨e, rfl⟩ := op_of h2
        refine ⟨e, fun _ j u hj => ?_⟩
        have hj4 : j < 3 := by
          have := (List.getElem?_eq_some_iff.1 hj).1
          simpa using this
        have := hcell j hj4
        rw [add_add] at this
        rw [this, hj]
      · exact ⟨⟨false, 0, 0⟩, fun h => absurd h hi⟩
    have hlen : ((List.range len).map fun i => Classical.choose (each i)).length = len := by simp
    refine ⟨(List.range len).map fun i => Classical.choose (each i), some a, cap, by rw [hlen]; exact hcs, by rw [hlen]; exact hl, ?_⟩
    rw [hlen]
    refine ⟨by simp, hmax, fun _ => ⟨a, rfl, ?_⟩⟩
    intro j p hj
    have hjl : j < len := by
      have := (List.getElem?_eq_some_iff.1 hj).1
      simpa using this
    have hp : Classical.choose (each j) = p := by
      simpa [List.getElem?_map, List.getElem?_range hjl] using hj
    have hc := Classical.choose_spec (each j) hjl
    rw [hp] at hc
    exact ⟨_, rfl, k52_mk W p, hc⟩
/-- One transaction, from its reading. -/
theorem txn_of {fuel : Nat} {cs : List Value} {x : DataW H × List MemPlace} (h : DataW.trod enc Tryd.prog W base spare held fuel 34 cs = some x) :
    ∃ (t : S34) (A : Option Addr) (cap : Nat), cs = [.int .i64 t.f0, .int .i64 t.f1, .int .i64 t.f2, .int .i64 t.f3, .slice A t.f4.length cap] ∧ t.f4.length ≤ cap ∧ Kd.C k52 W A t.f4.length t.f4 := by
  obtain ⟨xs, m, _, _, hl, hxl, hf⟩ := DataW.trod_struct Tryd.underlying34 h
  obtain ⟨v0, v1, v2, v3, v4, rfl⟩ := len5 (hl.trans cellsX)
  obtain ⟨y0, y1, y2, y3, y4, rfl⟩ := len5 hxl
  have g0 := hf 0 _ rfl
  have g1 := hf 1 _ rfl
  have g2 := hf 2 _ rfl
  have g3 := hf 3 _ rfl
  have g4 := hf 4 _ rfl
  simp [off0, offL] at g0 g1 g2 g3 g4
  obtain ⟨n0, e0, _, w0⟩ := DataW.trod_int Tryd.underlying3 g0
  obtain ⟨n1, e1, _, w1⟩ := DataW.trod_int Tryd.underlying3 g1
  obtain ⟨n2, e2, _, w2⟩ := DataW.trod_int Tryd.underlying3 g2
  obtain ⟨n3, e3, _, w3⟩ := DataW.trod_int Tryd.underlying3 g3
  obtain ⟨l, A, cap, e4, hc, hC⟩ := ops_of g4
  simp only [List.cons.injEq, and_true] at e0 e1 e2 e3 e4
  subst e0 e1 e2 e3 e4
  exact ⟨⟨n0, n1, n2, n3, l⟩, A, cap, rfl, hc, hC⟩
/-- A slice of transactions. -/
theorem txns_of {fuel : Nat} {a0 : Option Addr} {len cap : Nat} {x : DataW H × List MemPlace} (hmax : len ≤ 9223372036854775807) (h : DataW.trod enc Tryd.prog W base spare held fuel 23 [.slice a0 len cap] = some x) :
    ∃ l : List S34, l.length = len ∧ len ≤ cap ∧ Kd.C k34 W a0 len l := by
  rcases Go.Deep.open_slice Tryd.underlying23 h with ⟨h0, _⟩ | ⟨a, l2, c2, m, n, D, Pl, hcs, hb, hl, hm, hmm, _, hx⟩
  · simp only [List.cons.injEq, and_true, Value.slice.injEq] at h0
    obtain ⟨rfl, rfl, rfl⟩ := h0
    exact ⟨[], rfl, Nat.le_refl _, ⟨rfl, by omega, fun h => absurd h (by omega)⟩⟩
  · simp only [List.cons.injEq, and_true, Value.slice.injEq] at hcs
    obtain ⟨rfl, rfl, rfl⟩ := hcs
    have hlm : len ≤ m := by rw [hmm]; split <;> omega
    have each : ∀ i, ∃ e : S34, i < len → ∃ (A : Option Addr) (c : Nat), (e.f4.length ≤ c ∧ Kd.C k52 W A e.f4.length e.f4) ∧ ∀ j u, [Value.int .i64 e.f0, .int .i64 e.f1, .int .i64 e.f2, .int .i64 e.f3, .slice A e.f4.length c][j]? = some u → W.cell? (a.add (i * 5 + j)) = some u := by
      intro i
      by_cases hi : i < len
      · obtain ⟨cs', h1, h2⟩ := hx i (by omega)
        rw [cellsX] at h1
        obtain ⟨_, hlen, hcell⟩ := World.cells?_some h1
        obtain ⟨e, A, c, rfl, hc1, hc2⟩ := txn_of h2
        refine ⟨e, fun _ => ⟨A, c, ⟨hc1, hc2⟩, fun j u hj => ?_⟩⟩
        have hj4 : j < 5 := by
          have := (List.getElem?_eq_some_iff.1 hj).1
          simpa using this
        have := hcell j hj4
        rw [add_add] at this
        rw [this, hj]
      · exact ⟨⟨0, 0, 0, 0, []⟩, fun h => absurd h hi⟩
    refine ⟨(List.range len).map fun i => Classical.choose (each i), by simp, hl, ⟨by simp, hmax, fun _ => ⟨a, rfl, ?_⟩⟩⟩
    intro j p hj
    have hjl : j < len := by
      have := (List.getElem?_eq_some_iff.1 hj).1
      simpa using this
    have hp : Classical.choose (each j) = p := by
      simpa [List.getElem?_map, List.getElem?_range hjl] using hj
    obtain ⟨A, c, ⟨hc1, hc2⟩, hc⟩ := Classical.choose_spec (each j) hjl
    rw [hp] at hc hc1 hc2
    exact ⟨_, rfl, k34_mk W p hc1 hc2, hc⟩
end
end Go.Proofs.YtkjkceeopkfniaaDoor.P

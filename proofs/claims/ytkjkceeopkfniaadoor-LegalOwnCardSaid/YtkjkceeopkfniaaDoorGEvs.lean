/- A slice of events that came in, opened; the table of kinds, out of the card's condition. -/
import Derived.Test.YtkjkceeopkfniaaDoorGRight
import Derived.Test.YtkjkceeopkfniaaDoorRows
import Derived.Deep.Slices
import Derived.Deep.SlicePairs
import Derived.OpenShut
import Derived.ProofKit
import Derived.LaidMore
import Derived.Stop.LaidErr
import Derived.Stop.Joined
namespace Go.Proofs.YtkjkceeopkfniaaDoor.P
set_option linter.unusedVariables false
set_option linter.unusedSimpArgs false
open Go Go.RowKit Go.ChangeShapes Go.WideShapes Go.Proofs.YtkjkceeopkfniaaDoorW.PrintWords Go.Proofs.YtkjkceeopkfniaaDoorW.PrintLast Go.Proofs.YtkjkceeopkfniaaDoorW.PrintMore Go.Proofs.YtkjkceeopkfniaaDoor.U

theorem len3 {α : Type} {l : List α} (h : l.length = 3) : ∃ a b c, l = [a, b, c] := by
  match l, h with
  | [a, b, c], _ => exact ⟨a, b, c, rfl⟩
theorem len4 {α : Type} {l : List α} (h : l.length = 4) : ∃ a b c d, l = [a, b, c, d] := by
  match l, h with
  | [a, b, c, d], _ => exact ⟨a, b, c, d, rfl⟩
theorem len10 {α : Type} {l : List α} (h : l.length = 10) : ∃ a b c d e f g i j k, l = [a, b, c, d, e, f, g, i, j, k] := by
  match l, h with
  | [a, b, c, d, e, f, g, i, j, k], _ => exact ⟨a, b, c, d, e, f, g, i, j, k, rfl⟩
def wfE (e : S36) : Prop := (Lit.int .i64 e.f0).wf = true ∧ (Lit.int .i64 e.f1).wf = true ∧ (Lit.int .i64 e.f2).wf = true ∧ (Lit.int .i64 e.f3).wf = true
theorem off0 : (Tryd.prog.cellsOf 3) = 1 := by kernel_rfl
theorem cellsE : (Tryd.prog.cellsOf 36) = 4 := by kernel_rfl
section
variable {H : Type} {enc : TypeId × Value → H} {W : World} {base : Nat} {spare : Nat → Bool} {held : Bool}
/-- One event, from its reading. -/
theorem event_of {fuel : Nat} {cs : List Value} {x : DataW H × List MemPlace} (h : DataW.trod enc Tryd.prog W base spare held fuel 36 cs = some x) :
    ∃ e : S36, cs = [.int .i64 e.f0, .int .i64 e.f1, .int .i64 e.f2, .int .i64 e.f3] ∧ wfE e := by
  obtain ⟨xs, m, _, _, hl, hxl, hf⟩ := DataW.trod_struct Tryd.underlying36 h
  obtain ⟨v0, v1, v2, v3, rfl⟩ := len4 (hl.trans cellsE)
  obtain ⟨y0, y1, y2, y3, rfl⟩ := len4 hxl
  have g0 := hf 0 _ rfl
  have g1 := hf 1 _ rfl
  have g2 := hf 2 _ rfl
  have g3 := hf 3 _ rfl
  simp [off0] at g0 g1 g2 g3
  obtain ⟨n0, e0, _, w0⟩ := DataW.trod_int Tryd.underlying3 g0
  obtain ⟨n1, e1, _, w1⟩ := DataW.trod_int Tryd.underlying3 g1
  obtain ⟨n2, e2, _, w2⟩ := DataW.trod_int Tryd.underlying3 g2
  obtain ⟨n3, e3, _, w3⟩ := DataW.trod_int Tryd.underlying3 g3
  simp only [List.cons.injEq, and_true] at e0 e1 e2 e3
  subst e0 e1 e2 e3
  exact ⟨⟨n0, n1, n2, n3⟩, rfl, w0, w1, w2, w3⟩
/-- A slice of events. -/
theorem events_of {fuel : Nat} {a0 : Option Addr} {len cap : Nat} {x : DataW H × List MemPlace} (hmax : len ≤ 9223372036854775807) (h : DataW.trod enc Tryd.prog W base spare held fuel 22 [.slice a0 len cap] = some x) :
    ∃ l : List S36, l.length = len ∧ len ≤ cap ∧ Kd.C k36 W a0 len l ∧ ∀ e ∈ l, wfE e := by
  rcases Go.Deep.open_slice Tryd.underlying22 h with ⟨h0, _⟩ | ⟨a, l2, c2, m, n, D, Pl, hcs, hb, hl, hm, hmm, _, hx⟩
  · simp only [List.cons.injEq, and_true, Value.slice.injEq] at h0
    obtain ⟨rfl, rfl, rfl⟩ := h0
    exact ⟨[], rfl, Nat.le_refl _, ⟨rfl, by omega, fun h => absurd h (by omega)⟩, fun e he => by cases he⟩
  · simp only [List.cons.injEq, and_true, Value.slice.injEq] at hcs
    obtain ⟨rfl, rfl, rfl⟩ := hcs
    have hlm : len ≤ m := by rw [hmm]; split <;> omega
    have each : ∀ i, ∃ e : S36, i < len → wfE e ∧ ∀ j u, [Value.int .i64 e.f0, .int .i64 e.f1, .int .i64 e.f2, .int .i64 e.f3][j]? = some u → W.cell? (a.add (i * 4 + j)) = some u := by
      intro i
      by_cases hi : i < len
      · obtain ⟨cs', h1, h2⟩ := hx i (by omega)
        rw [cellsE] at h1
        obtain ⟨_, hlen, hcell⟩ := World.cells?_some h1
        obtain ⟨e, rfl, hw⟩ := event_of h2
        refine ⟨e, fun _ => ⟨hw, fun j u hj => ?_⟩⟩
        have hj4 : j < 4 := by
          have := (List.getElem?_eq_some_iff.1 hj).1
          simpa using this
        have := hcell j hj4
        rw [add_add] at this
        rw [this, hj]
      · exact ⟨⟨0, 0, 0, 0⟩, fun h => absurd h hi⟩
    refine ⟨(List.range len).map fun i => Classical.choose (each i), by simp, hl, ⟨by simp, hmax, fun _ => ⟨a, rfl, ?_⟩⟩, ?_⟩
    · intro j p hj
      have hjl : j < len := by
        have := (List.getElem?_eq_some_iff.1 hj).1
        simpa using this
      have hp : Classical.choose (each j) = p := by
        simpa [List.getElem?_map, List.getElem?_range hjl] using hj
      obtain ⟨hw, hc⟩ := Classical.choose_spec (each j) hjl
      rw [hp] at hc
      exact ⟨_, rfl, k36_mk W p, hc⟩
    · intro e he
      obtain ⟨i, hi, rfl⟩ := List.mem_map.1 he
      exact (Classical.choose_spec (each i) (List.mem_range.1 hi)).1
end
theorem kglob : Tryd.prog.globalNamed "recant/text.kinds" = some 0 := by kernel_rfl
theorem kglobT : (Tryd.prog.globals[0]?).map (·.type) = some 167 := by kernel_rfl
theorem kcell : (Tryd.prog.cellsOf 166) = 3 := by kernel_rfl
theorem kcs : (Tryd.prog.cellsOf 9) = 1 ∧ (Tryd.prog.cellsOf 4) = 1 := ⟨by kernel_rfl, by kernel_rfl⟩
/-- One kind, from its reading. -/
theorem kind_of {H : Type} {enc : TypeId × Value → H} {W : World} {base : Nat} {spare : Nat → Bool} {held : Bool} {fuel : Nat} {cs : List Value} {s : List UInt8} {b1 b2 : Bool} {p : List MemPlace}
    (h : DataW.trod enc Tryd.prog W base spare held fuel 166 cs = some (.agg [.lit (.string s), .lit (.bool b1), .lit (.bool b2)], p)) : cs = [.string ⟨s.toArray⟩, .bool b1, .bool b2] := by
  obtain ⟨xs, m, _, hx, hl, hxl, hf⟩ := DataW.trod_struct Tryd.underlying166 h
  obtain ⟨v0, v1, v2, rfl⟩ := len3 (hl.trans kcell)
  obtain ⟨y0, y1, y2, rfl⟩ := len3 hxl
  have g0 := hf 0 _ rfl
  have g1 := hf 1 _ rfl
  have g2 := hf 2 _ rfl
  simp [kcs.1, kcs.2] at g0 g1 g2
  obtain ⟨n0, e0, x0, _⟩ := DataW.trod_string Tryd.underlying9 g0
  obtain ⟨n1, e1, x1⟩ := DataW.trod_bool Tryd.underlying4 g1
  obtain ⟨n2, e2, x2⟩ := DataW.trod_bool Tryd.underlying4 g2
  simp only [List.cons.injEq, and_true] at e0 e1 e2
  subst e0 e1 e2 x0 x1 x2
  simp at hx
  obtain ⟨⟨h0, h1, h2⟩, _⟩ := hx
  subst h1 h2
  rw [h0]
/-- The table of kinds lies in a world whose variable reads as the program's text lays it. -/
theorem ktab_of {W : World} {rest : List (String × DataW Unit)} (h : laidMet Tryd.prog (("recant/text.kinds", Rows.laid_recant_text_kinds) :: rest) W) : KTab W := by
  obtain ⟨ps, ⟨g', t', cs, fuel, p, q, hg', ht', hvar, hd, _, _⟩, _⟩ := h
  obtain rfl := Option.some.inj (kglob.symm.trans hg')
  obtain rfl := Option.some.inj (kglobT.symm.trans ht')
  obtain ⟨xs, m, _, hx, hl, hxl, hel⟩ := DataW.trod_array Tryd.underlying167 hd
  rw [kcell] at hel
  simp only [Prod.mk.injEq] at hx
  obtain ⟨hx1, _⟩ := hx
  unfold Rows.laid_recant_text_kinds at hx1
  obtain ⟨y0, y1, y2, y3, y4, y5, y6, y7, y8, y9, rfl⟩ := len10 hxl
  simp only [List.map_cons, List.map_nil, DataW.agg.injEq, List.cons.injEq, and_true] at hx1
  obtain ⟨h0, h1, h2, h3, h4, h5, h6, h7, h8, h9⟩ := hx1
  have fin : ∀ (k : Nat) (y : DataW Unit × List MemPlace) (b1 b2 : Bool) (s : List UInt8), DataW.trod (fun _ => ()) Tryd.prog W 0 (fun _ => true) false m 166 ((cs.toList.drop (k * 3)).take 3) = some y → DataW.agg [.lit (.string s), .lit (.bool b1), .lit (.bool b2)] = y.1 → W.cell? ⟨0, k * 3, none⟩ = some (.string ⟨s.toArray⟩) ∧ W.cell? ⟨0, k * 3 + 1, none⟩ = some (.bool b1) ∧ W.cell? ⟨0, k * 3 + 2, none⟩ = some (.bool b2) := by
    intro k y b1 b2 s hy he
    obtain ⟨y1, yp⟩ := y
    dsimp only at he
    subst he
    have hc := kind_of hy
    have at_ : ∀ j v, j < 3 → [Value.string ⟨s.toArray⟩, .bool b1, .bool b2][j]? = some v → W.cell? ⟨0, k * 3 + j, none⟩ = some v := by
      intro j v hj hv
      rw [← hc, List.getElem?_take_of_lt hj, List.getElem?_drop] at hv
      have := World.var?_cell hg' hvar (k * 3 + j)
      rw [this, ← hv, Array.getElem?_toList]
    exact ⟨at_ 0 _ (by decide) rfl, at_ 1 _ (by decide) rfl, at_ 2 _ (by decide) rfl⟩
  intro k hk
  rcases (by omega : k = 0 ∨ k = 1 ∨ k = 2 ∨ k = 3 ∨ k = 4 ∨ k = 5 ∨ k = 6 ∨ k = 7 ∨ k = 8 ∨ k = 9) with rfl | rfl | rfl | rfl | rfl | rfl | rfl | rfl | rfl | rfl
  · exact fin 0 y0 _ _ _ (hel 0 (by decide)) h0
  · exact fin 1 y1 _ _ _ (hel 1 (by decide)) h1
  · exact fin 2 y2 _ _ _ (hel 2 (by decide)) h2
  · exact fin 3 y3 _ _ _ (hel 3 (by decide)) h3
  · exact fin 4 y4 _ _ _ (hel 4 (by decide)) h4
  · exact fin 5 y5 _ _ _ (hel 5 (by decide)) h5
  · exact fin 6 y6 _ _ _ (hel 6 (by decide)) h6
  · exact fin 7 y7 _ _ _ (hel 7 (by decide)) h7
  · exact fin 8 y8 _ _ _ (hel 8 (by decide)) h8
  · exact fin 9 y9 _ _ _ (hel 9 (by decide)) h9
end Go.Proofs.YtkjkceeopkfniaaDoor.P

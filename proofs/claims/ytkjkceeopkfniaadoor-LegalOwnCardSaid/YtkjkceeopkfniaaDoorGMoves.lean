/- proper.moves: the map of maps; what it tells of a state and a kind. -/
import Derived.Test.YtkjkceeopkfniaaDoorGMap
namespace Go.Proofs.YtkjkceeopkfniaaDoor.P
set_option linter.unusedVariables false
set_option linter.unusedSimpArgs false
open Go Go.RowKit Go.Proofs.YtkjkceeopkfniaaDoorW.PrintWords Go.Proofs.YtkjkceeopkfniaaDoorW.PrintLast Go.Proofs.YtkjkceeopkfniaaDoorW.PrintMore Go.Proofs.YtkjkceeopkfniaaDoor.U

def VM (b : Nat) : Value := .map (some b)
def VI (x : Int) : Value := .int .i64 x
def noF {α : Type} : Int → Option α := fun _ => none
def setF {α : Type} (f : Int → Option α) (k : Int) (x : α) : Int → Option α := fun k' => if k' = k then some x else f k'
abbrev TM : TypeId := 135
abbrev TMM : TypeId := 156
def inn0 : Int → Option Int := (setF noF 0 1)
def inn1 : Int → Option Int := (setF (setF noF 1 2) 9 7)
def inn2 : Int → Option Int := (setF (setF (setF (setF noF 2 3) 4 4) 6 5) 8 6)
def inn3 : Int → Option Int := (setF (setF noF 3 2) 9 7)
def inn4 : Int → Option Int := (setF (setF noF 5 2) 9 7)
def inn5 : Int → Option Int := (setF (setF noF 7 7) 9 7)
def inn6 : Int → Option Int := (setF noF 9 7)
def outF (n : Nat) : Int → Option Nat := (setF (setF (setF (setF (setF (setF (setF noF 0 (n + 1)) 1 (n + 2)) 2 (n + 3)) 3 (n + 4)) 4 (n + 5)) 5 (n + 6)) 6 (n + 7))
/-- The kinds that may come next, of a state: the state then. -/
def nextS (s k : Int) : Option Int := if s = 0 then inn0 k else if s = 1 then inn1 k else if s = 2 then inn2 k else if s = 3 then inn3 k else if s = 4 then inn4 k else if s = 5 then inn5 k else if s = 6 then inn6 k else none
structure Moves (W : World) (n : Nat) : Prop where
  outer : MapIs VM W n (outF n)
  i0 : MapIs VI W (n + 1) inn0
  i1 : MapIs VI W (n + 2) inn1
  i2 : MapIs VI W (n + 3) inn2
  i3 : MapIs VI W (n + 4) inn3
  i4 : MapIs VI W (n + 5) inn4
  i5 : MapIs VI W (n + 6) inn5
  i6 : MapIs VI W (n + 7) inn6
theorem Moves.below {W W' : World} {n : Nat} (h : Moves W n) (hb : Below W.heap.size W W') : Moves W' n := ⟨h.outer.below hb, h.i0.below hb, h.i1.below hb, h.i2.below hb, h.i3.below hb, h.i4.below hb, h.i5.below hb, h.i6.below hb⟩
theorem Moves.kept {W W' : World} {n : Nat} (h : Moves W n) (hb : ∀ j, n ≤ j → j ≤ n + 7 → W'.heap[j]? = W.heap[j]?) : Moves W' n := ⟨h.outer.kept (hb _ (by omega) (by omega)), h.i0.kept (hb _ (by omega) (by omega)), h.i1.kept (hb _ (by omega) (by omega)), h.i2.kept (hb _ (by omega) (by omega)), h.i3.kept (hb _ (by omega) (by omega)), h.i4.kept (hb _ (by omega) (by omega)), h.i5.kept (hb _ (by omega) (by omega)), h.i6.kept (hb _ (by omega) (by omega))⟩
theorem Moves.lt {W : World} {n : Nat} (h : Moves W n) : n + 7 < W.heap.size := h.i6.lt
/-- A world with new objects behind. -/
def gr (w : World) (L : List Obj) : World := { w with heap := w.heap ++ L.toArray }
theorem gr_nil (w : World) : gr w [] = w := by
  unfold gr
  have h : w.heap ++ ([] : List Obj).toArray = w.heap := by simp
  rw [h]
theorem gr_at (w : World) (L : List Obj) (i : Nat) : (gr w L).heap[w.heap.size + i]? = L[i]? := by
  show (w.heap ++ L.toArray)[w.heap.size + i]? = _
  rw [Array.getElem?_append_right (by omega)]
  simp
theorem gr_below (w : World) (L : List Obj) : Below w.heap.size w (gr w L) := by
  refine ⟨rfl, rfl, rfl, ?_, ?_⟩
  · show w.heap.size ≤ (w.heap ++ L.toArray).size
    simp
  · intro i hi
    show (w.heap ++ L.toArray)[i]? = w.heap[i]?
    rw [Array.getElem?_append_left hi]
theorem mk_step (t : TypeId) {w W : World} {L : List Obj} (h : W = gr w L) : ∃ W', W' = gr w (L ++ [.map #[] 0]) ∧ (Instr.makeMap t none).run Tryd.prog W = .ok (.map (some (w.heap.size + L.length))) W' := by
  subst h
  refine ⟨_, rfl, ?_⟩
  rw [run_makeMap]
  have h1 : (gr w L).heap.size = w.heap.size + L.length := by
    show (w.heap ++ L.toArray).size = _
    simp
  have h2 : (gr w L).alloc (.map #[] 0) = gr w (L ++ [.map #[] 0]) := by
    show ({ w with heap := (w.heap ++ L.toArray).push (.map #[] 0) } : World) = { w with heap := w.heap ++ (L ++ [Obj.map #[] 0]).toArray }
    congr 1
    apply Array.ext'
    simp
  rw [h1, h2]
theorem in_step {t K E : TypeId} (ht : Tryd.prog.underlying t = some (.map K E)) (hK : Tryd.prog.underlying K = some (.int .i64)) {w W : World} {L : List Obj} (h : W = gr w L) (i : Nat) {es : Array MapEntry} {c : Nat} (hi : L[i]? = some (.map es c)) (key : Int) (val : Value)
    (hf : Instr.findNow (.int .i64) (.int .i64 key) es.toList 0 = some none) : ∃ W', W' = gr w (L.set i (.map (es.push { key := .int .i64 key, val := val, born := c }) (c + 1))) ∧ (Instr.mapUpdate t (.map (some (w.heap.size + i))) (.int .i64 key) val).run Tryd.prog W = .ok () W' := by
  subst h
  have hb : (gr w L).heap[w.heap.size + i]? = some (.map es c) := by rw [gr_at, hi]
  have hk : MapKept.IsKey (.int .i64) (.int .i64 key) := rfl
  refine ⟨_, rfl, ?_⟩
  have e : ∀ X : Obj, (w.heap ++ L.toArray).setIfInBounds (w.heap.size + i) X = w.heap ++ (L.set i X).toArray := by
    intro X
    apply Array.ext'
    rw [Array.toList_setIfInBounds, Array.toList_append, Array.toList_append, List.set_append_right _ _ (by simp)]
    simp
  have h2 : ∀ X : Obj, ({ gr w L with heap := (gr w L).heap.setIfInBounds (w.heap.size + i) X } : World) = gr w (L.set i X) := by
    intro X
    unfold gr
    dsimp only
    rw [e]
  rw [← h2]
  simp [Instr.mapUpdate, run_underlying ht, MapKept.run_getObj_map hb, MapKept.run_checkKey hK hk, MapKept.run_findKey hK hf, MapKept.run_setObj_map _ hb, Result.andThen]
theorem is_of {w : World} {L : List Obj} {i : Nat} {α : Type} {V : α → Value} {es : Array MapEntry} {c : Nat} {l : List (Int × α)} {f : Int → Option α} (hi : L[i]? = some (.map es c)) (he : EsIs V es.toList l) (hf : ∀ k, aget l k = f k) : MapIs V (gr w L) (w.heap.size + i) f :=
  ⟨es, c, l, by rw [gr_at, hi], he, hf⟩
set_option maxHeartbeats 4000000 in
set_option maxRecDepth 100000 in
theorem moves_run (w : World) : Calls Tryd.prog 136 #[] w fun e w' => ∃ n, w.heap.size ≤ n ∧ e = .returned (.map (some n)) ∧ Moves w' n ∧ Below w.heap.size w w' := by
  have h0 : w = gr w [] := (gr_nil w).symm
  obtain ⟨w1, x, y⟩ := mk_step TMM h0
  have h1 : w1 = gr w [.map #[] 0] := x
  have e1 : (Instr.makeMap TMM none).run Tryd.prog w = .ok (.map (some w.heap.size)) w1 := y
  clear x y h0
  obtain ⟨w2, x, y⟩ := mk_step TM h1
  have h2 : w2 = gr w [.map #[] 0, .map #[] 0] := x
  have e2 : (Instr.makeMap TM none).run Tryd.prog w1 = .ok (.map (some (w.heap.size + 1))) w2 := y
  clear x y h1
  obtain ⟨w3, x, y⟩ := in_step Tryd.underlying135 Tryd.underlying3 h2 1 (es := #[]) (c := 0) rfl 0 (.int .i64 1) rfl
  have h3 : w3 = gr w [.map #[] 0, .map #[⟨.int .i64 0, .int .i64 1, 0⟩] 1] := x
  have e3 : (Instr.mapUpdate TM (.map (some (w.heap.size + 1))) (.int .i64 0) (.int .i64 1)).run Tryd.prog w2 = .ok () w3 := y
  clear x y h2
  obtain ⟨w4, x, y⟩ := in_step Tryd.underlying156 Tryd.underlying158 h3 0 (es := #[]) (c := 0) rfl 0 (.map (some (w.heap.size + 1))) rfl
  have h4 : w4 = gr w [.map #[⟨.int .i64 0, .map (some (w.heap.size + 1)), 0⟩] 1, .map #[⟨.int .i64 0, .int .i64 1, 0⟩] 1] := x
  have e4 : (Instr.mapUpdate TMM (.map (some w.heap.size)) (.int .i64 0) (.map (some (w.heap.size + 1)))).run Tryd.prog w3 = .ok () w4 := y
  clear x y h3
  obtain ⟨w5, x, y⟩ := mk_step TM h4
  have h5 : w5 = gr w [.map #[⟨.int .i64 0, .map (some (w.heap.size + 1)), 0⟩] 1, .map #[⟨.int .i64 0, .int .i64 1, 0⟩] 1, .map #[] 0] := x
  have e5 : (Instr.makeMap TM none).run Tryd.prog w4 = .ok (.map (some (w.heap.size + 2))) w5 := y
  clear x y h4
  obtain ⟨w6, x, y⟩ := in_step Tryd.underlying135 Tryd.underlying3 h5 2 (es := #[]) (c := 0) rfl 1 (.int .i64 2) rfl
  have h6 : w6 = gr w [.map #[⟨.int .i64 0, .map (some (w.heap.size + 1)), 0⟩] 1, .map #[⟨.int .i64 0, .int .i64 1, 0⟩] 1, .map #[⟨.int .i64 1, .int .i64 2, 0⟩] 1] := x
  have e6 : (Instr.mapUpdate TM (.map (some (w.heap.size + 2))) (.int .i64 1) (.int .i64 2)).run Tryd.prog w5 = .ok () w6 := y
  clear x y h5
  obtain ⟨w7, x, y⟩ := in_step Tryd.underlying135 Tryd.underlying3 h6 2 (es := #[⟨.int .i64 1, .int .i64 2, 0⟩]) (c := 1) rfl 9 (.int .i64 7) rfl
  have h7 : w7 = gr w [.map #[⟨.int .i64 0, .map (some (w.heap.size + 1)), 0⟩] 1, .map #[⟨.int .i64 0, .int .i64 1, 0⟩] 1, .map #[⟨.int .i64 1, .int .i64 2, 0⟩, ⟨.int .i64 9, .int .i64 7, 1⟩] 2] := x
  have e7 : (Instr.mapUpdate TM (.map (some (w.heap.size + 2))) (.int .i64 9) (.int .i64 7)).run Tryd.prog w6 = .ok () w7 := y
  clear x y h6
  obtain ⟨w8, x, y⟩ := in_step Tryd.underlying156 Tryd.underlying158 h7 0 (es := #[⟨.int .i64 0, .map (some (w.heap.size + 1)), 0⟩]) (c := 1) rfl 1 (.map (some (w.heap.size + 2))) rfl
  have h8 : w8 = gr w [.map #[⟨.int .i64 0, .map (some (w.heap.size + 1)), 0⟩, ⟨.int .i64 1, .map (some (w.heap.size + 2)), 1⟩] 2, .map #[⟨.int .i64 0, .int .i64 1, 0⟩] 1, .map #[⟨.int .i64 1, .int .i64 2, 0⟩, ⟨.int .i64 9, .int .i64 7, 1⟩] 2] := x
  have e8 : (Instr.mapUpdate TMM (.map (some w.heap.size)) (.int .i64 1) (.map (some (w.heap.size + 2)))).run Tryd.prog w7 = .ok () w8 := y
  clear x y h7
  obtain ⟨w9, x, y⟩ := mk_step TM h8
  have h9 : w9 = gr w [.map #[⟨.int .i64 0, .map (some (w.heap.size + 1)), 0⟩, ⟨.int .i64 1, .map (some (w.heap.size + 2)), 1⟩] 2, .map #[⟨.int .i64 0, .int .i64 1, 0⟩] 1, .map #[⟨.int .i64 1, .int .i64 2, 0⟩, ⟨.int .i64 9, .int .i64 7, 1⟩] 2, .map #[] 0] := x
  have e9 : (Instr.makeMap TM none).run Tryd.prog w8 = .ok (.map (some (w.heap.size + 3))) w9 := y
  clear x y h8
  obtain ⟨w10, x, y⟩ := in_step Tryd.underlying135 Tryd.underlying3 h9 3 (es := #[]) (c := 0) rfl 2 (.int .i64 3) rfl
  have h10 : w10 = gr w [.map #[⟨.int .i64 0, .map (some (w.heap.size + 1)), 0⟩, ⟨.int .i64 1, .map (some (w.heap.size + 2)), 1⟩] 2, .map #[⟨.int .i64 0, .int .i64 1, 0⟩] 1, .map #[⟨.int .i64 1, .int .i64 2, 0⟩, ⟨.int .i64 9, .int .i64 7, 1⟩] 2, .map #[⟨.int .i64 2, .int .i64 3, 0⟩] 1] := x
  have e10 : (Instr.mapUpdate TM (.map (some (w.heap.size + 3))) (.int .i64 2) (.int .i64 3)).run Tryd.prog w9 = .ok () w10 := y
  clear x y h9
  obtain ⟨w11, x, y⟩ := in_step Tryd.underlying135 Tryd.underlying3 h10 3 (es := #[⟨.int .i64 2, .int .i64 3, 0⟩]) (c := 1) rfl 4 (.int .i64 4) rfl
  have h11 : w11 = gr w [.map #[⟨.int .i64 0, .map (some (w.heap.size + 1)), 0⟩, ⟨.int .i64 1, .map (some (w.heap.size + 2)), 1⟩] 2, .map #[⟨.int .i64 0, .int .i64 1, 0⟩] 1, .map #[⟨.int .i64 1, .int .i64 2, 0⟩, ⟨.int .i64 9, .int .i64 7, 1⟩] 2, .map #[⟨.int .i64 2, .int .i64 3, 0⟩, ⟨.int .i64 4, .int .i64 4, 1⟩] 2] := x
  have e11 : (Instr.mapUpdate TM (.map (some (w.heap.size + 3))) (.int .i64 4) (.int .i64 4)).run Tryd.prog w10 = .ok () w11 := y
  clear x y h10
  obtain ⟨w12, x, y⟩ := in_step Tryd.underlying135 Tryd.underlying3 h11 3 (es := #[⟨.int .i64 2, .int .i64 3, 0⟩, ⟨.int .i64 4, .int .i64 4, 1⟩]) (c := 2) rfl 6 (.int .i64 5) rfl
  have h12 : w12 = gr w [.map #[⟨.int .i64 0, .map (some (w.heap.size + 1)), 0⟩, ⟨.int .i64 1, .map (some (w.heap.size + 2)), 1⟩] 2, .map #[⟨.int .i64 0, .int .i64 1, 0⟩] 1, .map #[⟨.int .i64 1, .int .i64 2, 0⟩, ⟨.int .i64 9, .int .i64 7, 1⟩] 2, .map #[⟨.int .i64 2, .int .i64 3, 0⟩, ⟨.int .i64 4, .int .i64 4, 1⟩, ⟨.int .i64 6, .int .i64 5, 2⟩] 3] := x
  have e12 : (Instr.mapUpdate TM (.map (some (w.heap.size + 3))) (.int .i64 6) (.int .i64 5)).run Tryd.prog w11 = .ok () w12 := y
  clear x y h11
  obtain ⟨w13, x, y⟩ := in_step Tryd.underlying135 Tryd.underlying3 h12 3 (es := #[⟨.int .i64 2, .int .i64 3, 0⟩, ⟨.int .i64 4, .int .i64 4, 1⟩, ⟨.int .i64 6, .int .i64 5, 2⟩]) (c := 3) rfl 8 (.int .i64 6) rfl
  have h13 : w13 = gr w [.map #[⟨.int .i64 0, .map (some (w.heap.size + 1)), 0⟩, ⟨.int .i64 1, .map (some (w.heap.size + 2)), 1⟩] 2, .map #[⟨.int .i64 0, .int .i64 1, 0⟩] 1, .map #[⟨.int .i64 1, .int .i64 2, 0⟩, ⟨.int .i64 9, .int .i64 7, 1⟩] 2, .map #[⟨.int .i64 2, .int .i64 3, 0⟩, ⟨.int .i64 4, .int .i64 4, 1⟩, ⟨.int .i64 6, .int .i64 5, 2⟩, ⟨.int .i64 8, .int .i64 6, 3⟩] 4] := x
  have e13 : (Instr.mapUpdate TM (.map (some (w.heap.size + 3))) (.int .i64 8) (.int .i64 6)).run Tryd.prog w12 = .ok () w13 := y
  clear x y h12
  obtain ⟨w14, x, y⟩ := in_step Tryd.underlying156 Tryd.underlying158 h13 0 (es := #[⟨.int .i64 0, .map (some (w.heap.size + 1)), 0⟩, ⟨.int .i64 1, .map (some (w.heap.size + 2)), 1⟩]) (c := 2) rfl 2 (.map (some (w.heap.size + 3))) rfl
  have h14 : w14 = gr w [.map #[⟨.int .i64 0, .map (some (w.heap.size + 1)), 0⟩, ⟨.int .i64 1, .map (some (w.heap.size + 2)), 1⟩, ⟨.int .i64 2, .map (some (w.heap.size + 3)), 2⟩] 3, .map #[⟨.int .i64 0, .int .i64 1, 0⟩] 1, .map #[⟨.int .i64 1, .int .i64 2, 0⟩, ⟨.int .i64 9, .int .i64 7, 1⟩] 2, .map #[⟨.int .i64 2, .int .i64 3, 0⟩, ⟨.int .i64 4, .int .i64 4, 1⟩, ⟨.int .i64 6, .int .i64 5, 2⟩, ⟨.int .i64 8, .int .i64 6, 3⟩] 4] := x
  have e14 : (Instr.mapUpdate TMM (.map (some w.heap.size)) (.int .i64 2) (.map (some (w.heap.size + 3)))).run Tryd.prog w13 = .ok () w14 := y
  clear x y h13
  obtain ⟨w15, x, y⟩ := mk_step TM h14
  have h15 : w15 = gr w [.map #[⟨.int .i64 0, .map (some (w.heap.size + 1)), 0⟩, ⟨.int .i64 1, .map (some (w.heap.size + 2)), 1⟩, ⟨.int .i64 2, .map (some (w.heap.size + 3)), 2⟩] 3, .map #[⟨.int .i64 0, .int .i64 1, 0⟩] 1, .map #[⟨.int .i64 1, .int .i64 2, 0⟩, ⟨.int .i64 9, .int .i64 7, 1⟩] 2, .map #[⟨.int .i64 2, .int .i64 3, 0⟩, ⟨.int .i64 4, .int .i64 4, 1⟩, ⟨.int .i64 6, .int .i64 5, 2⟩, ⟨.int .i64 8, .int .i64 6, 3⟩] 4, .map #[] 0] := x
  have e15 : (Instr.makeMap TM none).run Tryd.prog w14 = .ok (.map (some (w.heap.size + 4))) w15 := y
  clear x y h14
  obtain ⟨w16, x, y⟩ := in_step Tryd.underlying135 Tryd.underlying3 h15 4 (es := #[]) (c := 0) rfl 3 (.int .i64 2) rfl
  have h16 : w16 = gr w [.map #[⟨.int .i64 0, .map (some (w.heap.size + 1)), 0⟩, ⟨.int .i64 1, .map (some (w.heap.size + 2)), 1⟩, ⟨.int .i64 2, .map (some (w.heap.size + 3)), 2⟩] 3, .map #[⟨.int .i64 0, .int .i64 1, 0⟩] 1, .map #[⟨.int .i64 1, .int .i64 2, 0⟩, ⟨.int .i64 9, .int .i64 7, 1⟩] 2, .map #[⟨.int .i64 2, .int .i64 3, 0⟩, ⟨.int .i64 4, .int .i64 4, 1⟩, ⟨.int .i64 6, .int .i64 5, 2⟩, ⟨.int .i64 8, .int .i64 6, 3⟩] 4, .map #[⟨.int .i64 3, .int .i64 2, 0⟩] 1] := x
  have e16 : (Instr.mapUpdate TM (.map (some (w.heap.size + 4))) (.int .i64 3) (.int .i64 2)).run Tryd.prog w15 = .ok () w16 := y
  clear x y h15
  obtain ⟨w17, x, y⟩ := in_step Tryd.underlying135 Tryd.underlying3 h16 4 (es := #[⟨.int .i64 3, .int .i64 2, 0⟩]) (c := 1) rfl 9 (.int .i64 7) rfl
  have h17 : w17 = gr w [.map #[⟨.int .i64 0, .map (some (w.heap.size + 1)), 0⟩, ⟨.int .i64 1, .map (some (w.heap.size + 2)), 1⟩, ⟨.int .i64 2, .map (some (w.heap.size + 3)), 2⟩] 3, .map #[⟨.int .i64 0, .int .i64 1, 0⟩] 1, .map #[⟨.int .i64 1, .int .i64 2, 0⟩, ⟨.int .i64 9, .int .i64 7, 1⟩] 2, .map #[⟨.int .i64 2, .int .i64 3, 0⟩, ⟨.int .i64 4, .int .i64 4, 1⟩, ⟨.int .i64 6, .int .i64 5, 2⟩, ⟨.int .i64 8, .int .i64 6, 3⟩] 4, .map #[⟨.int .i64 3, .int .i64 2, 0⟩, ⟨.int .i64 9, .int .i64 7, 1⟩] 2] := x
  have e17 : (Instr.mapUpdate TM (.map (some (w.heap.size + 4))) (.int .i64 9) (.int .i64 7)).run Tryd.prog w16 = .ok () w17 := y
  clear x y h16
  obtain ⟨w18, x, y⟩ := in_step Tryd.underlying156 Tryd.underlying158 h17 0 (es := #[⟨.int .i64 0, .map (some (w.heap.size + 1)), 0⟩, ⟨.int .i64 1, .map (some (w.heap.size + 2)), 1⟩, ⟨.int .i64 2, .map (some (w.heap.size + 3)), 2⟩]) (c := 3) rfl 3 (.map (some (w.heap.size + 4))) rfl
  have h18 : w18 = gr w [.map #[⟨.int .i64 0, .map (some (w.heap.size + 1)), 0⟩, ⟨.int .i64 1, .map (some (w.heap.size + 2)), 1⟩, ⟨.int .i64 2, .map (some (w.heap.size + 3)), 2⟩, ⟨.int .i64 3, .map (some (w.heap.size + 4)), 3⟩] 4, .map #[⟨.int .i64 0, .int .i64 1, 0⟩] 1, .map #[⟨.int .i64 1, .int .i64 2, 0⟩, ⟨.int .i64 9, .int .i64 7, 1⟩] 2, .map #[⟨.int .i64 2, .int .i64 3, 0⟩, ⟨.int .i64 4, .int .i64 4, 1⟩, ⟨.int .i64 6, .int .i64 5, 2⟩, ⟨.int .i64 8, .int .i64 6, 3⟩] 4, .map #[⟨.int .i64 3, .int .i64 2, 0⟩, ⟨.int .i64 9, .int .i64 7, 1⟩] 2] := x
  have e18 : (Instr.mapUpdate TMM (.map (some w.heap.size)) (.int .i64 3) (.map (some (w.heap.size + 4)))).run Tryd.prog w17 = .ok () w18 := y
  clear x y h17
  obtain ⟨w19, x, y⟩ := mk_step TM h18
  have h19 : w19 = gr w [.map #[⟨.int .i64 0, .map (some (w.heap.size + 1)), 0⟩, ⟨.int .i64 1, .map (some (w.heap.size + 2)), 1⟩, ⟨.int .i64 2, .map (some (w.heap.size + 3)), 2⟩, ⟨.int .i64 3, .map (some (w.heap.size + 4)), 3⟩] 4, .map #[⟨.int .i64 0, .int .i64 1, 0⟩] 1, .map #[⟨.int .i64 1, .int .i64 2, 0⟩, ⟨.int .i64 9, .int .i64 7, 1⟩] 2, .map #[⟨.int .i64 2, .int .i64 3, 0⟩, ⟨.int .i64 4, .int .i64 4, 1⟩, ⟨.int .i64 6, .int .i64 5, 2⟩, ⟨.int .i64 8, .int .i64 6, 3⟩] 4, .map #[⟨.int .i64 3, .int .i64 2, 0⟩, ⟨.int .i64 9, .int .i64 7, 1⟩] 2, .map #[] 0] := x
  have e19 : (Instr.makeMap TM none).run Tryd.prog w18 = .ok (.map (some (w.heap.size + 5))) w19 := y
  clear x y h18
  obtain ⟨w20, x, y⟩ := in_step Tryd.underlying135 Tryd.underlying3 h19 5 (es := #[]) (c := 0) rfl 5 (.int .i64 2) rfl
  have h20 : w20 = gr w [.map #[⟨.int .i64 0, .map (some (w.heap.size + 1)), 0⟩, ⟨.int .i64 1, .map (some (w.heap.size + 2)), 1⟩, ⟨.int .i64 2, .map (some (w.heap.size + 3)), 2⟩, ⟨.int .i64 3, .map (some (w.heap.size + 4)), 3⟩] 4, .map #[⟨.int .i64 0, .int .i64 1, 0⟩] 1, .map #[⟨.int .i64 1, .int .i64 2, 0⟩, ⟨.int .i64 9, .int .i64 7, 1⟩] 2, .map #[⟨.int .i64 2, .int .i64 3, 0⟩, ⟨.int .i64 4, .int .i64 4, 1⟩, ⟨.int .i64 6, .int .i64 5, 2⟩, ⟨.int .i64 8, .int .i64 6, 3⟩] 4, .map #[⟨.int .i64 3, .int .i64 2, 0⟩, ⟨.int .i64 9, .int .i64 7, 1⟩] 2, .map #[⟨.int .i64 5, .int .i64 2, 0⟩] 1] := x
  have e20 : (Instr.mapUpdate TM (.map (some (w.heap.size + 5))) (.int .i64 5) (.int .i64 2)).run Tryd.prog w19 = .ok () w20 := y
  clear x y h19
  obtain ⟨w21, x, y⟩ := in_step Tryd.underlying135 Tryd.underlying3 h20 5 (es := #[⟨.int .i64 5, .int .i64 2, 0⟩]) (c := 1) rfl 9 (.int .i64 7) rfl
  have h21 : w21 = gr w [.map #[⟨.int .i64 0, .map (some (w.heap.size + 1)), 0⟩, ⟨.int .i64 1, .map (some (w.heap.size + 2)), 1⟩, ⟨.int .i64 2, .map (some (w.heap.size + 3)), 2⟩, ⟨.int .i64 3, .map (some (w.heap.size + 4)), 3⟩] 4, .map #[⟨.int .i64 0, .int .i64 1, 0⟩] 1, .map #[⟨.int .i64 1, .int .i64 2, 0⟩, ⟨.int .i64 9, .int .i64 7, 1⟩] 2, .map #[⟨.int .i64 2, .int .i64 3, 0⟩, ⟨.int .i64 4, .int .i64 4, 1⟩, ⟨.int .i64 6, .int .i64 5, 2⟩, ⟨.int .i64 8, .int .i64 6, 3⟩] 4, .map #[⟨.int .i64 3, .int .i64 2, 0⟩, ⟨.int .i64 9, .int .i64 7, 1⟩] 2, .map #[⟨.int .i64 5, .int .i64 2, 0⟩, ⟨.int .i64 9, .int .i64 7, 1⟩] 2] := x
  have e21 : (Instr.mapUpdate TM (.map (some (w.heap.size + 5))) (.int .i64 9) (.int .i64 7)).run Tryd.prog w20 = .ok () w21 := y
  clear x y h20
  obtain ⟨w22, x, y⟩ := in_step Tryd.underlying156 Tryd.underlying158 h21 0 (es := #[⟨.int .i64 0, .map (some (w.heap.size + 1)), 0⟩, ⟨.int .i64 1, .map (some (w.heap.size + 2)), 1⟩, ⟨.int .i64 2, .map (some (w.heap.size + 3)), 2⟩, ⟨.int .i64 3, .map (some (w.heap.size + 4)), 3⟩]) (c := 4) rfl 4 (.map (some (w.heap.size + 5))) rfl
  have h22 : w22 = gr w [.map #[⟨.int .i64 0, .map (some (w.heap.size + 1)), 0⟩, ⟨.int .i64 1, .map (some (w.heap.size + 2)), 1⟩, ⟨.int .i64 2, .map (some (w.heap.size + 3)), 2⟩, ⟨.int .i64 3, .map (some (w.heap.size + 4)), 3⟩, ⟨.int .i64 4, .map (some (w.heap.size + 5)), 4⟩] 5, .map #[⟨.int .i64 0, .int .i64 1, 0⟩] 1, .map #[⟨.int .i64 1, .int .i64 2, 0⟩, ⟨.int .i64 9, .int .i64 7, 1⟩] 2, .map #[⟨.int .i64 2, .int .i64 3, 0⟩, ⟨.int .i64 4, .int .i64 4, 1⟩, ⟨.int .i64 6, .int .i64 5, 2⟩, ⟨.int .i64 8, .int .i64 6, 3⟩] 4, .map #[⟨.int .i64 3, .int .i64 2, 0⟩, ⟨.int .i64 9, .int .i64 7, 1⟩] 2, .map #[⟨.int .i64 5, .int .i64 2, 0⟩, ⟨.int .i64 9, .int .i64 7, 1⟩] 2] := x
  have e22 : (Instr.mapUpdate TMM (.map (some w.heap.size)) (.int .i64 4) (.map (some (w.heap.size + 5)))).run Tryd.prog w21 = .ok () w22 := y
  clear x y h21
  obtain ⟨w23, x, y⟩ := mk_step TM h22
  have h23 : w23 = gr w [.map #[⟨.int .i64 0, .map (some (w.heap.size + 1)), 0⟩, ⟨.int .i64 1, .map (some (w.heap.size + 2)), 1⟩, ⟨.int .i64 2, .map (some (w.heap.size + 3)), 2⟩, ⟨.int .i64 3, .map (some (w.heap.size + 4)), 3⟩, ⟨.int .i64 4, .map (some (w.heap.size + 5)), 4⟩] 5, .map #[⟨.int .i64 0, .int .i64 1, 0⟩] 1, .map #[⟨.int .i64 1, .int .i64 2, 0⟩, ⟨.int .i64 9, .int .i64 7, 1⟩] 2, .map #[⟨.int .i64 2, .int .i64 3, 0⟩, ⟨.int .i64 4, .int .i64 4, 1⟩, ⟨.int .i64 6, .int .i64 5, 2⟩, ⟨.int .i64 8, .int .i64 6, 3⟩] 4, .map #[⟨.int .i64 3, .int .i64 2, 0⟩, ⟨.int .i64 9, .int .i64 7, 1⟩] 2, .map #[⟨.int .i64 5, .int .i64 2, 0⟩, ⟨.int .i64 9, .int .i64 7, 1⟩] 2, .map #[] 0] := x
  have e23 : (Instr.makeMap TM none).run Tryd.prog w22 = .ok (.map (some (w.heap.size + 6))) w23 := y
  clear x y h22
  obtain ⟨w24, x, y⟩ := in_step Tryd.underlying135 Tryd.underlying3 h23 6 (es := #[]) (c := 0) rfl 7 (.int .i64 7) rfl
  have h24 : w24 = gr w [.map #[⟨.int .i64 0, .map (some (w.heap.size + 1)), 0⟩, ⟨.int .i64 1, .map (some (w.heap.size + 2)), 1⟩, ⟨.int .i64 2, .map (some (w.heap.size + 3)), 2⟩, ⟨.int .i64 3, .map (some (w.heap.size + 4)), 3⟩, ⟨.int .i64 4, .map (some (w.heap.size + 5)), 4⟩] 5, .map #[⟨.int .i64 0, .int .i64 1, 0⟩] 1, .map #[⟨.int .i64 1, .int .i64 2, 0⟩, ⟨.int .i64 9, .int .i64 7, 1⟩] 2, .map #[⟨.int .i64 2, .int .i64 3, 0⟩, ⟨.int .i64 4, .int .i64 4, 1⟩, ⟨.int .i64 6, .int .i64 5, 2⟩, ⟨.int .i64 8, .int .i64 6, 3⟩] 4, .map #[⟨.int .i64 3, .int .i64 2, 0⟩, ⟨.int .i64 9, .int .i64 7, 1⟩] 2, .map #[⟨.int .i64 5, .int .i64 2, 0⟩, ⟨.int .i64 9, .int .i64 7, 1⟩] 2, .map #[⟨.int .i64 7, .int .i64 7, 0⟩] 1] := x
  have e24 : (Instr.mapUpdate TM (.map (some (w.heap.size + 6))) (.int .i64 7) (.int .i64 7)).run Tryd.prog w23 = .ok () w24 := y
  clear x y h23
  obtain ⟨w25, x, y⟩ := in_step Tryd.underlying135 Tryd.underlying3 h24 6 (es := #[⟨.int .i64 7, .int .i64 7, 0⟩]) (c := 1) rfl 9 (.int .i64 7) rfl
  have h25 : w25 = gr w [.map #[⟨.int .i64 0, .map (some (w.heap.size + 1)), 0⟩, ⟨.int .i64 1, .map (some (w.heap.size + 2)), 1⟩, ⟨.int .i64 2, .map (some (w.heap.size + 3)), 2⟩, ⟨.int .i64 3, .map (some (w.heap.size + 4)), 3⟩, ⟨.int .i64 4, .map (some (w.heap.size + 5)), 4⟩] 5, .map #[⟨.int .i64 0, .int .i64 1, 0⟩] 1, .map #[⟨.int .i64 1, .int .i64 2, 0⟩, ⟨.int .i64 9, .int .i64 7, 1⟩] 2, .map #[⟨.int .i64 2, .int .i64 3, 0⟩, ⟨.int .i64 4, .int .i64 4, 1⟩, ⟨.int .i64 6, .int .i64 5, 2⟩, ⟨.int .i64 8, .int .i64 6, 3⟩] 4, .map #[⟨.int .i64 3, .int .i64 2, 0⟩, ⟨.int .i64 9, .int .i64 7, 1⟩] 2, .map #[⟨.int .i64 5, .int .i64 2, 0⟩, ⟨.int .i64 9, .int .i64 7, 1⟩] 2, .map #[⟨.int .i64 7, .int .i64 7, 0⟩, ⟨.int .i64 9, .int .i64 7, 1⟩] 2] := x
  have e25 : (Instr.mapUpdate TM (.map (some (w.heap.size + 6))) (.int .i64 9) (.int .i64 7)).run Tryd.prog w24 = .ok () w25 := y
  clear x y h24
  obtain ⟨w26, x, y⟩ := in_step Tryd.underlying156 Tryd.underlying158 h25 0 (es := #[⟨.int .i64 0, .map (some (w.heap.size + 1)), 0⟩, ⟨.int .i64 1, .map (some (w.heap.size + 2)), 1⟩, ⟨.int .i64 2, .map (some (w.heap.size + 3)), 2⟩, ⟨.int .i64 3, .map (some (w.heap.size + 4)), 3⟩, ⟨.int .i64 4, .map (some (w.heap.size + 5)), 4⟩]) (c := 5) rfl 5 (.map (some (w.heap.size + 6))) rfl
  have h26 : w26 = gr w [.map #[⟨.int .i64 0, .map (some (w.heap.size + 1)), 0⟩, ⟨.int .i64 1, .map (some (w.heap.size + 2)), 1⟩, ⟨.int .i64 2, .map (some (w.heap.size + 3)), 2⟩, ⟨.int .i64 3, .map (some (w.heap.size + 4)), 3⟩, ⟨.int .i64 4, .map (some (w.heap.size + 5)), 4⟩, ⟨.int .i64 5, .map (some (w.heap.size + 6)), 5⟩] 6, .map #[⟨.int .i64 0, .int .i64 1, 0⟩] 1, .map #[⟨.int .i64 1, .int .i64 2, 0⟩, ⟨.int .i64 9, .int .i64 7, 1⟩] 2, .map #[⟨.int .i64 2, .int .i64 3, 0⟩, ⟨.int .i64 4, .int .i64 4, 1⟩, ⟨.int .i64 6, .int .i64 5, 2⟩, ⟨.int .i64 8, .int .i64 6, 3⟩] 4, .map #[⟨.int .i64 3, .int .i64 2, 0⟩, ⟨.int .i64 9, .int .i64 7, 1⟩] 2, .map #[⟨.int .i64 5, .int .i64 2, 0⟩, ⟨.int .i64 9, .int .i64 7, 1⟩] 2, .map #[⟨.int .i64 7, .int .i64 7, 0⟩, ⟨.int .i64 9, .int .i64 7, 1⟩] 2] := x
  have e26 : (Instr.mapUpdate TMM (.map (some w.heap.size)) (.int .i64 5) (.map (some (w.heap.size + 6)))).run Tryd.prog w25 = .ok () w26 := y
  clear x y h25
  obtain ⟨w27, x, y⟩ := mk_step TM h26
  have h27 : w27 = gr w [.map #[⟨.int .i64 0, .map (some (w.heap.size + 1)), 0⟩, ⟨.int .i64 1, .map (some (w.heap.size + 2)), 1⟩, ⟨.int .i64 2, .map (some (w.heap.size + 3)), 2⟩, ⟨.int .i64 3, .map (some (w.heap.size + 4)), 3⟩, ⟨.int .i64 4, .map (some (w.heap.size + 5)), 4⟩, ⟨.int .i64 5, .map (some (w.heap.size + 6)), 5⟩] 6, .map #[⟨.int .i64 0, .int .i64 1, 0⟩] 1, .map #[⟨.int .i64 1, .int .i64 2, 0⟩, ⟨.int .i64 9, .int .i64 7, 1⟩] 2, .map #[⟨.int .i64 2, .int .i64 3, 0⟩, ⟨.int .i64 4, .int .i64 4, 1⟩, ⟨.int .i64 6, .int .i64 5, 2⟩, ⟨.int .i64 8, .int .i64 6, 3⟩] 4, .map #[⟨.int .i64 3, .int .i64 2, 0⟩, ⟨.int .i64 9, .int .i64 7, 1⟩] 2, .map #[⟨.int .i64 5, .int .i64 2, 0⟩, ⟨.int .i64 9, .int .i64 7, 1⟩] 2, .map #[⟨.int .i64 7, .int .i64 7, 0⟩, ⟨.int .i64 9, .int .i64 7, 1⟩] 2, .map #[] 0] := x
  have e27 : (Instr.makeMap TM none).run Tryd.prog w26 = .ok (.map (some (w.heap.size + 7))) w27 := y
  clear x y h26
  obtain ⟨w28, x, y⟩ := in_step Tryd.underlying135 Tryd.underlying3 h27 7 (es := #[]) (c := 0) rfl 9 (.int .i64 7) rfl
  have h28 : w28 = gr w [.map #[⟨.int .i64 0, .map (some (w.heap.size + 1)), 0⟩, ⟨.int .i64 1, .map (some (w.heap.size + 2)), 1⟩, ⟨.int .i64 2, .map (some (w.heap.size + 3)), 2⟩, ⟨.int .i64 3, .map (some (w.heap.size + 4)), 3⟩, ⟨.int .i64 4, .map (some (w.heap.size + 5)), 4⟩, ⟨.int .i64 5, .map (some (w.heap.size + 6)), 5⟩] 6, .map #[⟨.int .i64 0, .int .i64 1, 0⟩] 1, .map #[⟨.int .i64 1, .int .i64 2, 0⟩, ⟨.int .i64 9, .int .i64 7, 1⟩] 2, .map #[⟨.int .i64 2, .int .i64 3, 0⟩, ⟨.int .i64 4, .int .i64 4, 1⟩, ⟨.int .i64 6, .int .i64 5, 2⟩, ⟨.int .i64 8, .int .i64 6, 3⟩] 4, .map #[⟨.int .i64 3, .int .i64 2, 0⟩, ⟨.int .i64 9, .int .i64 7, 1⟩] 2, .map #[⟨.int .i64 5, .int .i64 2, 0⟩, ⟨.int .i64 9, .int .i64 7, 1⟩] 2, .map #[⟨.int .i64 7, .int .i64 7, 0⟩, ⟨.int .i64 9, .int .i64 7, 1⟩] 2, .map #[⟨.int .i64 9, .int .i64 7, 0⟩] 1] := x
  have e28 : (Instr.mapUpdate TM (.map (some (w.heap.size + 7))) (.int .i64 9) (.int .i64 7)).run Tryd.prog w27 = .ok () w28 := y
  clear x y h27
  obtain ⟨w29, x, y⟩ := in_step Tryd.underlying156 Tryd.underlying158 h28 0 (es := #[⟨.int .i64 0, .map (some (w.heap.size + 1)), 0⟩, ⟨.int .i64 1, .map (some (w.heap.size + 2)), 1⟩, ⟨.int .i64 2, .map (some (w.heap.size + 3)), 2⟩, ⟨.int .i64 3, .map (some (w.heap.size + 4)), 3⟩, ⟨.int .i64 4, .map (some (w.heap.size + 5)), 4⟩, ⟨.int .i64 5, .map (some (w.heap.size + 6)), 5⟩]) (c := 6) rfl 6 (.map (some (w.heap.size + 7))) rfl
  have h29 : w29 = gr w [.map #[⟨.int .i64 0, .map (some (w.heap.size + 1)), 0⟩, ⟨.int .i64 1, .map (some (w.heap.size + 2)), 1⟩, ⟨.int .i64 2, .map (some (w.heap.size + 3)), 2⟩, ⟨.int .i64 3, .map (some (w.heap.size + 4)), 3⟩, ⟨.int .i64 4, .map (some (w.heap.size + 5)), 4⟩, ⟨.int .i64 5, .map (some (w.heap.size + 6)), 5⟩, ⟨.int .i64 6, .map (some (w.heap.size + 7)), 6⟩] 7, .map #[⟨.int .i64 0, .int .i64 1, 0⟩] 1, .map #[⟨.int .i64 1, .int .i64 2, 0⟩, ⟨.int .i64 9, .int .i64 7, 1⟩] 2, .map #[⟨.int .i64 2, .int .i64 3, 0⟩, ⟨.int .i64 4, .int .i64 4, 1⟩, ⟨.int .i64 6, .int .i64 5, 2⟩, ⟨.int .i64 8, .int .i64 6, 3⟩] 4, .map #[⟨.int .i64 3, .int .i64 2, 0⟩, ⟨.int .i64 9, .int .i64 7, 1⟩] 2, .map #[⟨.int .i64 5, .int .i64 2, 0⟩, ⟨.int .i64 9, .int .i64 7, 1⟩] 2, .map #[⟨.int .i64 7, .int .i64 7, 0⟩, ⟨.int .i64 9, .int .i64 7, 1⟩] 2, .map #[⟨.int .i64 9, .int .i64 7, 0⟩] 1] := x
  have e29 : (Instr.mapUpdate TMM (.map (some w.heap.size)) (.int .i64 6) (.map (some (w.heap.size + 7)))).run Tryd.prog w28 = .ok () w29 := y
  clear x y h28
  have HM : Hid (Moves w29 w.heap.size) := Lib.hid (by
    rw [h29]
    refine ⟨is_of (l := [(0, w.heap.size + 1), (1, w.heap.size + 2), (2, w.heap.size + 3), (3, w.heap.size + 4), (4, w.heap.size + 5), (5, w.heap.size + 6), (6, w.heap.size + 7)]) (i := 0) rfl rfl ?_
      , is_of (l := [(0, 1)]) (i := 1) rfl rfl ?_
      , is_of (l := [(1, 2), (9, 7)]) (i := 2) rfl rfl ?_
      , is_of (l := [(2, 3), (4, 4), (6, 5), (8, 6)]) (i := 3) rfl rfl ?_
      , is_of (l := [(3, 2), (9, 7)]) (i := 4) rfl rfl ?_
      , is_of (l := [(5, 2), (9, 7)]) (i := 5) rfl rfl ?_
      , is_of (l := [(7, 7), (9, 7)]) (i := 6) rfl rfl ?_
      , is_of (l := [(9, 7)]) (i := 7) rfl rfl ?_
      ⟩
    all_goals
      intro k
      simp only [aget_cons, outF, inn0, inn1, inn2, inn3, inn4, inn5, inn6, setF, noF]
      have hz : ∀ (α : Type), aget ([] : List (Int × α)) k = none := fun _ => rfl
      simp only [hz]
      (repeat' split) <;> first | rfl | omega | (simp; omega))
  have HB : Hid (Below w.heap.size w w29) := Lib.hid (by rw [h29]; exact gr_below _ _)
  clear h29
  go_enter Tryd.func136, Tryd.ntmps136
  go_wp2
  go_ret
  exact ⟨_, Nat.le_refl _, rfl, HM.out, HB.out⟩
theorem Moves.look {W : World} {n : Nat} (h : Moves W n) (s k : Int) : ∃ mv, (Instr.lookup TMM (.map (some n)) (.int .i64 s) false).run Tryd.prog W = .ok mv W ∧ (Instr.lookup TM mv (.int .i64 k) true).run Tryd.prog W = .ok (.tuple #[.int .i64 ((nextS s k).getD 0), .bool (nextS s k).isSome]) W := by
  have ho := h.outer.look (P := Tryd.prog) Tryd.underlying156 Tryd.underlying158 Tryd.zeroValue135 s false
  have inn : ∀ b f, MapIs VI W b f → (Instr.lookup TM (.map (some b)) (.int .i64 k) true).run Tryd.prog W = .ok (.tuple #[.int .i64 ((f k).getD 0), .bool (f k).isSome]) W := by
    intro b f hf
    have := hf.look (P := Tryd.prog) Tryd.underlying135 Tryd.underlying3 Tryd.zeroValue158 k true
    rw [this]
    cases f k <;> rfl
  refine ⟨_, ho, ?_⟩
  rw [if_neg Bool.false_ne_true]
  unfold outF nextS
  by_cases c0 : s = 0
  · subst c0; exact inn _ _ h.i0
  by_cases c1 : s = 1
  · subst c1; exact inn _ _ h.i1
  by_cases c2 : s = 2
  · subst c2; exact inn _ _ h.i2
  by_cases c3 : s = 3
  · subst c3; exact inn _ _ h.i3
  by_cases c4 : s = 4
  · subst c4; exact inn _ _ h.i4
  by_cases c5 : s = 5
  · subst c5; exact inn _ _ h.i5
  by_cases c6 : s = 6
  · subst c6; exact inn _ _ h.i6
  have hnone : (setF (setF (setF (setF (setF (setF (setF noF 0 (n + 1)) 1 (n + 2)) 2 (n + 3)) 3 (n + 4)) 4 (n + 5)) 5 (n + 6)) 6 (n + 7)) s = none := by
    unfold setF noF
    rw [if_neg c6, if_neg c5, if_neg c4, if_neg c3, if_neg c2, if_neg c1, if_neg c0]
  rw [hnone, if_neg c0, if_neg c1, if_neg c2, if_neg c3, if_neg c4, if_neg c5, if_neg c6]
  have := look_nil (P := Tryd.prog) Tryd.underlying135 Tryd.underlying3 Tryd.zeroValue158 W k true
  exact this
end Go.Proofs.YtkjkceeopkfniaaDoor.P

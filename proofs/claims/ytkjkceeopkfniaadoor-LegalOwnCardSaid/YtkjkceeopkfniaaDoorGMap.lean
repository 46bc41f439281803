/- Maps whose keys are ints, as lists of pairs: a look-up, a store. -/
import Derived.Test.YtkjkceeopkfniaaDoorUNum
import Derived.Test.YtkjkceeopkfniaaDoorP0
import Derived.Test.YtkjkceeopkfniaaDoorProg
import Derived.LoopTactic
import Derived.WalkKit
import Derived.OwnWalk
import Derived.Outline
import Derived.Lib.Hide
import Derived.RegionTactic
import Derived.Deep.QuietTactic
import Derived.BigQuiet
import Derived.Below
import Derived.MapKept
import Derived.Maps.Own
namespace Go.Proofs.YtkjkceeopkfniaaDoor.P
set_option linter.unusedVariables false
set_option linter.unusedSimpArgs false
open Go Go.RowKit Go.Proofs.YtkjkceeopkfniaaDoorW.PrintWords Go.Proofs.YtkjkceeopkfniaaDoorW.PrintLast Go.Proofs.YtkjkceeopkfniaaDoorW.PrintMore Go.Proofs.YtkjkceeopkfniaaDoor.U

def afind {α : Type} (k : Int) : List (Int × α) → Nat → Option (Nat × α)
  | [], _ => none
  | p :: t, i => if p.1 = k then some (i, p.2) else afind k t (i + 1)
def aget {α : Type} (l : List (Int × α)) (k : Int) : Option α := (afind k l 0).map (·.2)
def EsIs {α : Type} (V : α → Value) (es : List MapEntry) (l : List (Int × α)) : Prop := es.map (fun e => (e.key, e.val)) = l.map (fun p => (Value.int .i64 p.1, V p.2))
theorem afind_shift {α : Type} (k : Int) (l : List (Int × α)) : ∀ i, afind k l i = (afind k l 0).map fun p => (p.1 + i, p.2) := by
  induction l with
  | nil => intro i; rfl
  | cons p t ih =>
    intro i
    simp only [afind]
    by_cases h : p.1 = k
    · simp [h]
    · rw [if_neg h, if_neg h, ih (i + 1), ih (0 + 1), Option.map_map]
      congr 1
      funext q
      simp
      omega
theorem aget_cons {α : Type} (p : Int × α) (l : List (Int × α)) (k : Int) : aget (p :: l) k = if p.1 = k then some p.2 else aget l k := by
  unfold aget
  simp only [afind]
  by_cases h : p.1 = k
  · simp [h]
  · rw [if_neg h, if_neg h, afind_shift k l (0 + 1), Option.map_map]
    rfl
theorem find_now {α : Type} (V : α → Value) (k : Int) : ∀ (es : List MapEntry) (l : List (Int × α)) (i : Nat), EsIs V es l → Instr.findNow (.int .i64) (.int .i64 k) es i = some ((afind k l i).map fun p => (p.1, V p.2)) := by
  intro es
  induction es with
  | nil =>
    intro l i h
    cases l with
    | nil => rfl
    | cons p t => simp [EsIs] at h
  | cons e es ih =>
    intro l i h
    cases l with
    | nil => simp [EsIs] at h
    | cons p t =>
      simp only [EsIs, List.map_cons, List.cons.injEq, Prod.mk.injEq] at h
      obtain ⟨⟨h1, h2⟩, h3⟩ := h
      simp only [Instr.findNow, h1, Instr.sameNow, if_true, afind]
      by_cases hk : p.1 = k
      · have : (k == p.1) = true := by rw [beq_iff_eq]; exact hk.symm
        rw [this, if_pos hk, h2]; rfl
      · have : (k == p.1) = false := beq_eq_false_iff_ne.2 fun e => hk e.symm
        rw [this, if_neg hk]
        exact ih t (i + 1) h3
/-- A look-up. -/
theorem look_run {α : Type} {P : Program} (V : α → Value) {t K E : TypeId} (ht : P.underlying t = some (.map K E)) (hK : P.underlying K = some (.int .i64)) {z : Value} (hz : ∀ w, (zeroValue E).run P w = .ok z w) {W : World} {b : Nat} {es : Array MapEntry} {clock : Nat} {l : List (Int × α)}
    (hb : W.heap[b]? = some (.map es clock)) (he : EsIs V es.toList l) (k : Int) (ok : Bool) :
    (Instr.lookup t (.map (some b)) (.int .i64 k) ok).run P W = .ok (if ok then .tuple #[((aget l k).map V).getD z, .bool (aget l k).isSome] else ((aget l k).map V).getD z) W := by
  have hf := find_now V k es.toList l 0 he
  have hk : MapKept.IsKey (.int .i64) (.int .i64 k) := rfl
  unfold aget
  cases ha : afind k l 0 with
  | none =>
    rw [ha] at hf
    simp [Instr.lookup, run_underlying ht, MapKept.run_getObj_map hb, MapKept.run_checkKey hK hk, MapKept.run_findKey hK hf, hz, Result.andThen]
  | some p =>
    rw [ha] at hf
    simp [Instr.lookup, run_underlying ht, MapKept.run_getObj_map hb, MapKept.run_checkKey hK hk, MapKept.run_findKey hK hf, Result.andThen]
/-- .. in a map that is nil. -/
theorem look_nil {P : Program} {t K E : TypeId} (ht : P.underlying t = some (.map K E)) (hK : P.underlying K = some (.int .i64)) {z : Value} (hz : ∀ w, (zeroValue E).run P w = .ok z w) (W : World) (k : Int) (ok : Bool) :
    (Instr.lookup t (.map none) (.int .i64 k) ok).run P W = .ok (if ok then .tuple #[z, .bool false] else z) W := by
  have hk : MapKept.IsKey (.int .i64) (.int .i64 k) := rfl
  have hf : Instr.findNow (.int .i64) (.int .i64 k) [] 0 = some none := rfl
  simp [Instr.lookup, run_underlying ht, MapKept.run_checkKey hK hk, MapKept.run_findKey hK hf, hz, Result.andThen]
/-- A store: what is behind it. -/
def aput {α : Type} (l : List (Int × α)) (k : Int) (x : α) : List (Int × α) :=
  match afind k l 0 with
  | some p => l.set p.1 (k, x)
  | none => l ++ [(k, x)]
theorem afind_lt {α : Type} (k : Int) (l : List (Int × α)) : ∀ i p, afind k l i = some p → i ≤ p.1 ∧ p.1 < i + l.length ∧ (l[p.1 - i]?).map (·.1) = some k := by
  induction l with
  | nil => intro i p h; cases h
  | cons q t ih =>
    intro i p h
    simp only [afind] at h
    by_cases hk : q.1 = k
    · rw [if_pos hk] at h
      cases h
      simp [hk]
    · rw [if_neg hk] at h
      obtain ⟨h1, h2, h3⟩ := ih _ _ h
      refine ⟨by omega, by simp; omega, ?_⟩
      rw [show p.1 - i = (p.1 - (i + 1)) + 1 by omega, List.getElem?_cons_succ]
      exact h3
theorem aget_none {α : Type} {k : Int} {l : List (Int × α)} (h : afind k l 0 = none) : ∀ k' x, aget (l ++ [(k, x)]) k' = if k' = k then some x else aget l k' := by
  intro k' x
  have hk : aget l k = none := by unfold aget; rw [h]; rfl
  clear h
  induction l with
  | nil =>
    rw [List.nil_append, aget_cons]
    by_cases h : k = k'
    · rw [if_pos h, if_pos h.symm]
    · rw [if_neg h, if_neg (fun e => h e.symm)]
  | cons p t ih =>
    rw [aget_cons] at hk
    by_cases hp : p.1 = k
    · rw [if_pos hp] at hk; cases hk
    · rw [if_neg hp] at hk
      rw [List.cons_append, aget_cons, aget_cons, ih hk]
      by_cases h1 : p.1 = k'
      · rw [if_pos h1, if_pos h1, if_neg (fun e => hp (h1.trans e))]
      · rw [if_neg h1, if_neg h1]
theorem aget_set {α : Type} {k : Int} (l : List (Int × α)) : ∀ (i : Nat) (p : Nat × α), afind k l i = some p → ∀ k' x, aget (l.set (p.1 - i) (k, x)) k' = if k' = k then some x else aget l k' := by
  induction l with
  | nil => intro i p h; cases h
  | cons q t ih =>
    intro i p h k' x
    simp only [afind] at h
    by_cases hk : q.1 = k
    · rw [if_pos hk] at h
      cases h
      simp only [Nat.sub_self, List.set_cons_zero, aget_cons]
      by_cases h1 : k = k'
      · rw [if_pos h1, if_pos h1.symm]
      · rw [if_neg h1, if_neg (fun e => h1 e.symm), if_neg (fun e => h1 (hk.symm.trans e))]
    · rw [if_neg hk] at h
      obtain ⟨h1, h2, _⟩ := afind_lt k t _ _ h
      rw [show p.1 - i = (p.1 - (i + 1)) + 1 by omega, List.set_cons_succ, aget_cons, aget_cons, ih _ _ h]
      by_cases h3 : q.1 = k'
      · rw [if_pos h3, if_pos h3, if_neg (fun e => hk (h3.trans e))]
      · rw [if_neg h3, if_neg h3]
theorem aget_put {α : Type} (l : List (Int × α)) (k : Int) (x : α) (k' : Int) : aget (aput l k x) k' = if k' = k then some x else aget l k' := by
  unfold aput
  cases h : afind k l 0 with
  | none => exact aget_none h k' x
  | some p => exact aget_set l 0 p h k' x
theorem put_run {α : Type} {P : Program} (V : α → Value) {t K E : TypeId} (ht : P.underlying t = some (.map K E)) (hK : P.underlying K = some (.int .i64)) {W : World} {b : Nat} {es : Array MapEntry} {clock : Nat} {l : List (Int × α)}
    (hb : W.heap[b]? = some (.map es clock)) (he : EsIs V es.toList l) (k : Int) (x : α) :
    ∃ es' clock', (Instr.mapUpdate t (.map (some b)) (.int .i64 k) (V x)).run P W = .ok () { W with heap := W.heap.setIfInBounds b (.map es' clock') } ∧ EsIs V es'.toList (aput l k x) := by
  have hf := find_now V k es.toList l 0 he
  have hk : MapKept.IsKey (.int .i64) (.int .i64 k) := rfl
  unfold aput
  cases ha : afind k l 0 with
  | none =>
    rw [ha] at hf
    refine ⟨es.push { key := .int .i64 k, val := V x, born := clock }, clock + 1, ?_, ?_⟩
    · simp [Instr.mapUpdate, run_underlying ht, MapKept.run_getObj_map hb, MapKept.run_checkKey hK hk, MapKept.run_findKey hK hf, MapKept.run_setObj_map _ hb, Result.andThen]
    · unfold EsIs at he ⊢
      simp [he]
  | some p =>
    rw [ha] at hf
    obtain ⟨_, h2, h3⟩ := afind_lt k l 0 p ha
    have hlen : es.toList.length = l.length := by
      have := congrArg List.length he
      simpa using this
    have hp : p.1 < es.size := by have : es.toList.length = es.size := by simp
                                  omega
    have hkey : es[p.1].key = .int .i64 k := by
      have h4 := congrArg (fun z => z[p.1]?) he
      simp only [List.getElem?_map] at h4
      obtain ⟨q, hq⟩ : ∃ q, l[p.1]? = some q := ⟨_, List.getElem?_eq_getElem (by omega)⟩
      have h5 : q.1 = k := by
        rw [Nat.sub_zero, hq] at h3
        simpa using h3
      rw [hq] at h4
      have h6 : es.toList[p.1]? = some es[p.1] := by simp [hp]
      rw [h6] at h4
      simp only [Option.map_some, Option.some.injEq, Prod.mk.injEq] at h4
      rw [h4.1, h5]
    refine ⟨es.modify p.1 fun e => { e with key := .int .i64 k, val := V x }, clock, ?_, ?_⟩
    · simp [Instr.mapUpdate, run_underlying ht, MapKept.run_getObj_map hb, MapKept.run_checkKey hK hk, MapKept.run_findKey hK hf, MapKept.run_setObj_map _ hb, hp, hkey, MapKept.run_keyThatStays hk, Result.andThen]
    · unfold EsIs at he ⊢
      apply List.ext_getElem?
      intro j
      have h4 := congrArg (fun z => z[j]?) he
      simp only [List.getElem?_map, Array.getElem?_toList] at h4 ⊢
      rw [List.getElem?_set, Array.getElem?_modify]
      by_cases hj : p.1 = j
      · subst hj
        rw [if_pos rfl, if_pos rfl, if_pos (by omega)]
        have h6 : es[p.1]? = some es[p.1] := by simp [hp]
        rw [h6]
        rfl
      · rw [if_neg hj, if_neg hj]
        exact h4
/-- Block b is a map that tells f. -/
def MapIs {α : Type} (V : α → Value) (W : World) (b : Nat) (f : Int → Option α) : Prop := ∃ (es : Array MapEntry) (clock : Nat) (l : List (Int × α)), W.heap[b]? = some (.map es clock) ∧ EsIs V es.toList l ∧ ∀ k, aget l k = f k
theorem MapIs.below {α : Type} {V : α → Value} {W W' : World} {b : Nat} {f : Int → Option α} (h : MapIs V W b f) (hb : Below W.heap.size W W') : MapIs V W' b f := by
  obtain ⟨es, c, l, h1, h2, h3⟩ := h
  exact ⟨es, c, l, (hb.block b (blk_lt h1)).trans h1, h2, h3⟩
theorem MapIs.kept {α : Type} {V : α → Value} {W W' : World} {b : Nat} {f : Int → Option α} (h : MapIs V W b f) (hb : W'.heap[b]? = W.heap[b]?) : MapIs V W' b f := by
  obtain ⟨es, c, l, h1, h2, h3⟩ := h
  exact ⟨es, c, l, hb.trans h1, h2, h3⟩
theorem MapIs.lt {α : Type} {V : α → Value} {W : World} {b : Nat} {f : Int → Option α} (h : MapIs V W b f) : b < W.heap.size := by
  obtain ⟨es, c, l, h1, _⟩ := h
  exact blk_lt h1
theorem MapIs.new {α : Type} (V : α → Value) (W : World) : MapIs V (W.alloc (.map #[] 0)) W.heap.size (fun _ => none) := ⟨#[], 0, [], (MapKept.heap_alloc W _).1, rfl, fun _ => rfl⟩
theorem MapIs.look {α : Type} {P : Program} {V : α → Value} {t K E : TypeId} {W : World} {b : Nat} {f : Int → Option α} (h : MapIs V W b f) (ht : P.underlying t = some (.map K E)) (hK : P.underlying K = some (.int .i64)) {z : Value} (hz : ∀ w, (zeroValue E).run P w = .ok z w) (k : Int) (ok : Bool) :
    (Instr.lookup t (.map (some b)) (.int .i64 k) ok).run P W = .ok (if ok then .tuple #[((f k).map V).getD z, .bool (f k).isSome] else ((f k).map V).getD z) W := by
  obtain ⟨es, c, l, h1, h2, h3⟩ := h
  rw [look_run V ht hK hz h1 h2 k ok, h3]
/-- What a store into a map's block leaves. -/
structure MPut (W W' : World) (b : Nat) : Prop where
  os : W'.os = W.os
  tape : W'.tape = W.tape
  output : W'.output = W.output
  size : W'.heap.size = W.heap.size
  other : ∀ j, j ≠ b → W'.heap[j]? = W.heap[j]?
theorem MPut.below {B : Nat} {W0 W W' : World} {b : Nat} (h : MPut W W' b) (hb : Below B W0 W) (hle : B ≤ b) : Below B W0 W' :=
  ⟨h.os.trans hb.os, h.tape.trans hb.tape, h.output.trans hb.output, by rw [h.size]; exact hb.size, fun i hi => (h.other i (by omega)).trans (hb.block i hi)⟩
theorem MapIs.put {α : Type} {P : Program} {V : α → Value} {t K E : TypeId} {W : World} {b : Nat} {f : Int → Option α} (h : MapIs V W b f) (ht : P.underlying t = some (.map K E)) (hK : P.underlying K = some (.int .i64)) (k : Int) (x : α) :
    ∃ W', (Instr.mapUpdate t (.map (some b)) (.int .i64 k) (V x)).run P W = .ok () W' ∧ MPut W W' b ∧ MapIs V W' b (fun k' => if k' = k then some x else f k') := by
  obtain ⟨es, c, l, h1, h2, h3⟩ := h
  obtain ⟨es', c', h4, h5⟩ := put_run V ht hK h1 h2 k x
  have hs := MapKept.heap_set (o' := .map es' c') h1
  refine ⟨_, h4, ⟨rfl, rfl, rfl, by simp, hs.2⟩, es', c', aput l k x, hs.1, h5, fun k' => ?_⟩
  rw [aget_put, h3]
end Go.Proofs.YtkjkceeopkfniaaDoor.P

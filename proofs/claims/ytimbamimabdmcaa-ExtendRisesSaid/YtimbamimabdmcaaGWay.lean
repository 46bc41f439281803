/- cycle.way and slices.Clone, given. -/
import Derived.Test.YtimbamimabdmcaaGMay
import Derived.Test.YtimbamimabdmcaaP1
import Derived.Test.YtimbamimabdmcaaProg
import Derived.LoopTactic
import Derived.WalkKit
import Derived.OwnWalk
import Derived.Outline
import Derived.Lib.Hide
import Derived.RangeFuncNested
import Derived.RangeFuncBox
import Derived.RegionTactic
import Derived.Deep.QuietTactic
import Derived.BigQuiet
namespace Go.Proofs.Ytimbamimabdmcaa.P
set_option linter.unusedVariables false
set_option linter.unusedSimpArgs false
open Go Go.RowKit Go.Proofs.YtimbamimabdmcaaW.PrintWords Go.Proofs.YtimbamimabdmcaaW.PrintLast Go.Proofs.YtimbamimabdmcaaW.PrintMore

/-- The cells of a way. -/
def wayList (p : List Int) : List Value := [.int .i64 (p.getD 0 0), .int .i64 (p.getD 1 0), .int .i64 (p.getD 2 0), .int .i64 (p.getD 3 0), .int .i64 (p.getD 4 0), .int .i64 (p.getD 5 0), .int .i64 p.length]
def wayCells (p : List Int) : Array Value := (wayList p).toArray
/-- A way: its cells. -/
def wayK : Kd (List Int) where
  sz := 7
  E := []
  K := fun _ p cs => cs = wayList p
  M := fun _ _ _ p cs => cs = wayList p
  K_len := fun h => by rw [h]; rfl
  K_one := fun h u hu => by
    rw [h] at hu
    simp only [wayList, List.mem_cons, List.not_mem_nil, or_false] at hu
    rcases hu with rfl | rfl | rfl | rfl | rfl | rfl | rfl <;> rfl
  K_below := fun _ h => h
  K_of_M := fun h => h
  M_mono := fun _ h => h
  M_bound := fun h => h
  M_move := fun _ h => h
  M_lower := fun _ h => h
theorem way_at (p : List Int) (hp : p.length ≤ 6) (j : Nat) (x : Int) (hj : p[j]? = some x) : (wayCells p)[j]? = some (.int .i64 x) := by
  have hl : j < p.length := (List.getElem?_eq_some_iff.1 hj).1
  have hx : p.getD j 0 = x := by rw [List.getD_eq_getElem?_getD, hj]; rfl
  rw [← hx]
  match j, (show j < 6 by omega) with
  | 0, _ => rfl
  | 1, _ => rfl
  | 2, _ => rfl
  | 3, _ => rfl
  | 4, _ => rfl
  | 5, _ => rfl
  | _ + 6, h => exact absurd h (by omega)
theorem box_reads (p : List Int) (hp : p.length ≤ 6) (W : World) (B : Nat) (h : W.heap[B]? = some (.cells (wayCells p) 51 (0, 0))) : Kd.C (Kd.int .i64) W (some ⟨B, 0, none⟩) p.length p := by
  refine ⟨rfl, by omega, fun _ => ⟨_, rfl, fun j x hj => ⟨[.int .i64 x], rfl, rfl, fun i u hu => ?_⟩⟩⟩
  match i, hu with
  | 0, hu =>
    have : u = .int .i64 x := by simpa using hu.symm
    subst this
    have h2 := way_at p hp j x hj
    have e : (Addr.add ⟨B, 0, none⟩ (j * (Kd.int .i64).sz + 0)) = ⟨B, j, none⟩ := by
      show Addr.add ⟨B, 0, none⟩ (j * 1 + 0) = _
      simp [Addr.add]
      intro h; exact h.symm
    rw [e]
    simp [World.cell?, h, h2]
  | _ + 1, hu => simp at hu
theorem index_run (l : List Int) (a : Int) (hl : l.length < 1000000) (d : Nat) : ∀ i : Nat, i + d = l.length → slices_Index_int_int.l0 (d + 1) l a (l.length : Int) (i : Int) = some (idxOf (fun x => decide (a = x)) (l.drop i) i) := by
  induction d with
  | zero =>
    intro i hi
    unfold slices_Index_int_int.l0
    rw [if_neg (by omega), show i = l.length by omega, List.drop_length]; rfl
  | succ d ih =>
    intro i hi
    have h2 := ih (i + 1) (by omega)
    have hd := idxOf_drop (fun x => decide (a = x)) l i (by omega)
    unfold slices_Index_int_int.l0
    rw [if_pos (by omega), if_pos (by omega), if_pos (by omega), hd]
    by_cases hax : a = rd l i
    · rw [if_pos hax, if_pos (decide_eq_true hax)]
    · rw [if_neg hax, if_neg (by simpa using hax), show wrap64 ((i : Int) + 1) = ((i + 1 : Nat) : Int) by unfold wrap64; omega]
      exact h2
theorem contains_run (l : List Int) (a : Int) (hl : l.length < 1000000) : slices_Contains_int_int.f (l.length + 1) l a = some (l.contains a) := by
  unfold slices_Contains_int_int.f slices_Index_int_int.f
  have h := index_run l a hl l.length 0 (by omega)
  rw [show ((0 : Nat) : Int) = 0 from rfl] at h
  rw [h, Option.bind_some, List.drop_zero, idxOf_any]
  congr 1
  rw [List.contains_eq_any_beq]
  congr 1
theorem way_has (p : List Int) (k : Int) (hp : p.length ≤ 6) (w : World) :
    Calls Try.prog 30 #[.agg (wayCells p), .int .i64 k] w fun e w' => e = .returned (.bool (p.contains k)) ∧ Below w.heap.size w w' := by
  have hn0 : 0 ≤ (p.length : Int) := by omega
  have hn6 : (p.length : Int) ≤ 6 := by omega
  have hz : wayCells p = #[.int .i64 (p.getD 0 0), .int .i64 (p.getD 1 0), .int .i64 (p.getD 2 0), .int .i64 (p.getD 3 0), .int .i64 (p.getD 4 0), .int .i64 (p.getD 5 0), .int .i64 p.length] := rfl
  have hc := slices_Contains_int_int.calls (p.length + 1) (some ⟨w.heap.size, 0, none⟩) 6 p k _ (w.alloc (.cells (wayCells p) 51)) (box_reads p hp _ _ (heap_alloc_new w _)) hp (contains_run p k (by omega))
  have hbl := (Below.refl _ w).alloc (Nat.le_refl _) (.cells (wayCells p) 51)
  have hr := Lib.hid (rfl : p.contains k = p.contains k)
  rw [hz] at hc hbl ⊢
  generalize p.getD 0 0 = a0 at *
  generalize p.getD 1 0 = a1 at *
  generalize p.getD 2 0 = a2 at *
  generalize p.getD 3 0 = a3 at *
  generalize p.getD 4 0 = a4 at *
  generalize p.getD 5 0 = a5 at *
  generalize p.contains k = r at *
  generalize p.length = n at *
  clear hz hr
  go_enter Try.func30, Try.ntmps30
  go_wp2_with (go_at_call 16; refine hc.mono ?_; rintro e w' ⟨rfl, ⟨m, rfl⟩⟩)
  go_ret
  exact ⟨rfl, pw_below_drewN hbl _⟩
theorem way_with (p : List Int) (k : Int) (hp : p.length < 6) (w : World) :
    Calls Try.prog 27 #[.agg (wayCells p), .int .i64 k] w fun e w' => e = .returned (.agg (wayCells (p ++ [k]))) ∧ Below w.heap.size w w' := by
  match p, hp with
  | [], _ =>
    show Calls Try.prog 27 #[.agg #[.int .i64 0, .int .i64 0, .int .i64 0, .int .i64 0, .int .i64 0, .int .i64 0, .int .i64 0], .int .i64 k] w fun e w' => e = .returned (.agg #[.int .i64 k, .int .i64 0, .int .i64 0, .int .i64 0, .int .i64 0, .int .i64 0, .int .i64 1]) ∧ Below w.heap.size w w'
    go_enter Try.func27, Try.ntmps27
    go_wp2
    refine bodyPost_ret (results_cell_row rfl _ _ (w.heap.size + 1) 51 #[.int .i64 k, .int .i64 0, .int .i64 0, .int .i64 0, .int .i64 0, .int .i64 0, .int .i64 1] (0, 0) _ rfl (heap_alloc2_new _ _ _) Try.underlying51 rfl (by kernel_rfl)) rfl ?_
    exact ⟨rfl, ((Below.refl _ w).alloc (Nat.le_refl _) _).alloc (by simp) _⟩
  | [a], _ =>
    show Calls Try.prog 27 #[.agg #[.int .i64 a, .int .i64 0, .int .i64 0, .int .i64 0, .int .i64 0, .int .i64 0, .int .i64 1], .int .i64 k] w fun e w' => e = .returned (.agg #[.int .i64 a, .int .i64 k, .int .i64 0, .int .i64 0, .int .i64 0, .int .i64 0, .int .i64 2]) ∧ Below w.heap.size w w'
    go_enter Try.func27, Try.ntmps27
    go_wp2
    refine bodyPost_ret (results_cell_row rfl _ _ (w.heap.size + 1) 51 #[.int .i64 a, .int .i64 k, .int .i64 0, .int .i64 0, .int .i64 0, .int .i64 0, .int .i64 2] (0, 0) _ rfl (heap_alloc2_new _ _ _) Try.underlying51 rfl (by kernel_rfl)) rfl ?_
    exact ⟨rfl, ((Below.refl _ w).alloc (Nat.le_refl _) _).alloc (by simp) _⟩
  | [a, b], _ =>
    show Calls Try.prog 27 #[.agg #[.int .i64 a, .int .i64 b, .int .i64 0, .int .i64 0, .int .i64 0, .int .i64 0, .int .i64 2], .int .i64 k] w fun e w' => e = .returned (.agg #[.int .i64 a, .int .i64 b, .int .i64 k, .int .i64 0, .int .i64 0, .int .i64 0, .int .i64 3]) ∧ Below w.heap.size w w'
    go_enter Try.func27, Try.ntmps27
    go_wp2
    refine bodyPost_ret (results_cell_row rfl _ _ (w.heap.size + 1) 51 #[.int .i64 a, .int .i64 b, .int .i64 k, .int .i64 0, .int .i64 0, .int .i64 0, .int .i64 3] (0, 0) _ rfl (heap_alloc2_new _ _ _) Try.underlying51 rfl (by kernel_rfl)) rfl ?_
    exact ⟨rfl, ((Below.refl _ w).alloc (Nat.le_refl _) _).alloc (by simp) _⟩
  | [a, b, c], _ =>
    show Calls Try.prog 27 #[.agg #[.int .i64 a, .int .i64 b, .int .i64 c, .int .i64 0, .int .i64 0, .int .i64 0, .int .i64 3], .int .i64 k] w fun e w' => e = .returned (.agg #[.int .i64 a, .int .i64 b, .int .i64 c, .int .i64 k, .int .i64 0, .int .i64 0, .int .i64 4]) ∧ Below w.heap.size w w'
    go_enter Try.func27, Try.ntmps27
    go_wp2
    refine bodyPost_ret (results_cell_row rfl _ _ (w.heap.size + 1) 51 #[.int .i64 a, .int .i64 b, .int .i64 c, .int .i64 k, .int .i64 0, .int .i64 0, .int .i64 4] (0, 0) _ rfl (heap_alloc2_new _ _ _) Try.underlying51 rfl (by kernel_rfl)) rfl ?_
    exact ⟨rfl, ((Below.refl _ w).alloc (Nat.le_refl _) _).alloc (by simp) _⟩
  | [a, b, c, d], _ =>
    show Calls Try.prog 27 #[.agg #[.int .i64 a, .int .i64 b, .int .i64 c, .int .i64 d, .int .i64 0, .int .i64 0, .int .i64 4], .int .i64 k] w fun e w' => e = .returned (.agg #[.int .i64 a, .int .i64 b, .int .i64 c, .int .i64 d, .int .i64 k, .int .i64 0, .int .i64 5]) ∧ Below w.heap.size w w'
    go_enter Try.func27, Try.ntmps27
    go_wp2
    refine bodyPost_ret (results_cell_row rfl _ _ (w.heap.size + 1) 51 #[.int .i64 a, .int .i64 b, .int .i64 c, .int .i64 d, .int .i64 k, .int .i64 0, .int .i64 5] (0, 0) _ rfl (heap_alloc2_new _ _ _) Try.underlying51 rfl (by kernel_rfl)) rfl ?_
    exact ⟨rfl, ((Below.refl _ w).alloc (Nat.le_refl _) _).alloc (by simp) _⟩
  | [a, b, c, d, x], _ =>
    show Calls Try.prog 27 #[.agg #[.int .i64 a, .int .i64 b, .int .i64 c, .int .i64 d, .int .i64 x, .int .i64 0, .int .i64 5], .int .i64 k] w fun e w' => e = .returned (.agg #[.int .i64 a, .int .i64 b, .int .i64 c, .int .i64 d, .int .i64 x, .int .i64 k, .int .i64 6]) ∧ Below w.heap.size w w'
    go_enter Try.func27, Try.ntmps27
    go_wp2
    refine bodyPost_ret (results_cell_row rfl _ _ (w.heap.size + 1) 51 #[.int .i64 a, .int .i64 b, .int .i64 c, .int .i64 d, .int .i64 x, .int .i64 k, .int .i64 6] (0, 0) _ rfl (heap_alloc2_new _ _ _) Try.underlying51 rfl (by kernel_rfl)) rfl ?_
    exact ⟨rfl, ((Below.refl _ w).alloc (Nat.le_refl _) _).alloc (by simp) _⟩
  | _ :: _ :: _ :: _ :: _ :: _ :: _, h => exact absurd h (by simp)
theorem way_last (p : List Int) (h0 : 0 < p.length) (hp : p.length ≤ 6) (w : World) :
    Calls Try.prog 28 #[.agg (wayCells p)] w fun e w' => e = .returned (.int .i64 (p.getLastD 0)) ∧ Below w.heap.size w w' := by
  match p, h0, hp with
  | [a], _, _ =>
    show Calls Try.prog 28 #[.agg #[.int .i64 a, .int .i64 0, .int .i64 0, .int .i64 0, .int .i64 0, .int .i64 0, .int .i64 1]] w fun e w' => e = .returned (.int .i64 a) ∧ Below w.heap.size w w'
    go_enter Try.func28, Try.ntmps28
    go_wp2
    go_ret
    exact ⟨rfl, (Below.refl _ w).alloc (Nat.le_refl _) _⟩
  | [a, b], _, _ =>
    show Calls Try.prog 28 #[.agg #[.int .i64 a, .int .i64 b, .int .i64 0, .int .i64 0, .int .i64 0, .int .i64 0, .int .i64 2]] w fun e w' => e = .returned (.int .i64 b) ∧ Below w.heap.size w w'
    go_enter Try.func28, Try.ntmps28
    go_wp2
    go_ret
    exact ⟨rfl, (Below.refl _ w).alloc (Nat.le_refl _) _⟩
  | [a, b, c], _, _ =>
    show Calls Try.prog 28 #[.agg #[.int .i64 a, .int .i64 b, .int .i64 c, .int .i64 0, .int .i64 0, .int .i64 0, .int .i64 3]] w fun e w' => e = .returned (.int .i64 c) ∧ Below w.heap.size w w'
    go_enter Try.func28, Try.ntmps28
    go_wp2
    go_ret
    exact ⟨rfl, (Below.refl _ w).alloc (Nat.le_refl _) _⟩
  | [a, b, c, d], _, _ =>
    show Calls Try.prog 28 #[.agg #[.int .i64 a, .int .i64 b, .int .i64 c, .int .i64 d, .int .i64 0, .int .i64 0, .int .i64 4]] w fun e w' => e = .returned (.int .i64 d) ∧ Below w.heap.size w w'
    go_enter Try.func28, Try.ntmps28
    go_wp2
    go_ret
    exact ⟨rfl, (Below.refl _ w).alloc (Nat.le_refl _) _⟩
  | [a, b, c, d, x], _, _ =>
    show Calls Try.prog 28 #[.agg #[.int .i64 a, .int .i64 b, .int .i64 c, .int .i64 d, .int .i64 x, .int .i64 0, .int .i64 5]] w fun e w' => e = .returned (.int .i64 x) ∧ Below w.heap.size w w'
    go_enter Try.func28, Try.ntmps28
    go_wp2
    go_ret
    exact ⟨rfl, (Below.refl _ w).alloc (Nat.le_refl _) _⟩
  | [a, b, c, d, x, y], _, _ =>
    show Calls Try.prog 28 #[.agg #[.int .i64 a, .int .i64 b, .int .i64 c, .int .i64 d, .int .i64 x, .int .i64 y, .int .i64 6]] w fun e w' => e = .returned (.int .i64 y) ∧ Below w.heap.size w w'
    go_enter Try.func28, Try.ntmps28
    go_wp2
    go_ret
    exact ⟨rfl, (Below.refl _ w).alloc (Nat.le_refl _) _⟩
  | _ :: _ :: _ :: _ :: _ :: _ :: _ :: _, _, h => exact absurd h (by simp)
end Go.Proofs.Ytimbamimabdmcaa.P

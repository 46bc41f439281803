/- Names of events, plainly; slices.Contains of numbers. -/
import Derived.Test.YtkjkceeopkfniaaDoorUNum
import Derived.Test.YtkjkceeopkfniaaDoorP0
import Derived.Test.YtkjkceeopkfniaaDoorP1
import Derived.Test.YtkjkceeopkfniaaDoorProg
import Derived.LoopTactic
import Derived.WalkKit
import Derived.OwnWalk
import Derived.Outline
import Derived.Lib.Hide
import Derived.RegionTactic
import Derived.Deep.QuietTactic
import Derived.Deep.RegionHeld3
import Derived.BigQuiet
import Derived.Deep.DeepCutAuto
namespace Go.Proofs.YtkjkceeopkfniaaDoor.P
set_option linter.unusedVariables false
set_option linter.unusedSimpArgs false
open Go Go.RowKit Go.Proofs.YtkjkceeopkfniaaDoorW.PrintWords Go.Proofs.YtkjkceeopkfniaaDoorW.PrintLast Go.Proofs.YtkjkceeopkfniaaDoorW.PrintMore Go.Proofs.YtkjkceeopkfniaaDoor.U

def idxOf (g : Int → Bool) : List Int → Nat → Int
  | [], _ => -1
  | x :: t, i => if g x then i else idxOf g t (i + 1)
theorem idxOf_drop (g : Int → Bool) (l : List Int) (k : Nat) (h : k < l.length) : idxOf g (l.drop k) k = if g (rd l k) then (k : Int) else idxOf g (l.drop (k + 1)) (k + 1) := by
  rw [List.drop_eq_getElem_cons h]
  have : rd l k = l[k] := by unfold rd; simp [List.getD_eq_getElem?_getD, List.getElem?_eq_getElem h]
  rw [this]; rfl
theorem idxOf_any (g : Int → Bool) (l : List Int) : ∀ i, decide (idxOf g l i ≥ 0) = l.any g := by
  induction l with
  | nil => intro i; rfl
  | cons x t ih =>
    intro i
    unfold idxOf
    cases hg : g x with
    | true => simp [hg]
    | false => simp only [Bool.false_eq_true, if_false]; rw [ih]; simp [hg]
theorem index_run (l : List Int) (a : Int) (hl : l.length < 1000000) (d : Nat) : ∀ i : Nat, i + d = l.length → slices_Index_int_int.l0 (d + 1) l a (l.length : Int) (i : Int) = some (idxOf (fun x => decide (a = x)) (l.drop i) i) := by
  induction d with
  | zero =>
    intro i hi
    unfold slices_Index_int_int.l0
    rw [if_neg (by omega), show i = l.length by omega, List.drop_length]; rfl
  | succ d ih =>
    intro i hi
    have h2 := ih (i + 1) (by omega)
    have hd := idxOf_drop (fun x => decide (a = x)) l i (by omega)
    unfold slices_Index_int_int.l0
    rw [if_pos (by omega), if_pos (by omega), if_pos (by omega), hd]
    by_cases hax : a = rd l i
    · rw [if_pos hax, if_pos (decide_eq_true hax)]
    · rw [if_neg hax, if_neg (by simpa using hax), show wrap64 ((i : Int) + 1) = ((i + 1 : Nat) : Int) by unfold wrap64; omega]
      exact h2
theorem contains_run (l : List Int) (a : Int) (hl : l.length < 1000000) : slices_Contains_int_int.f (l.length + 1) l a = some (l.contains a) := by
  unfold slices_Contains_int_int.f slices_Index_int_int.f
  have h := index_run l a hl l.length 0 (by omega)
  rw [show ((0 : Nat) : Int) = 0 from rfl] at h
  rw [h, Option.bind_some, List.drop_zero, idxOf_any]
  congr 1
  rw [List.contains_eq_any_beq]
  congr 1
def addN (acc : List Int) (e : S36) : List Int := if acc.contains e.f1 then acc else acc ++ [e.f1]
def namesF (evs : List S36) : List Int := evs.foldl addN []
theorem names_snoc (evs : List S36) (e : S36) : namesF (evs ++ [e]) = addN (namesF evs) e := by unfold namesF; rw [List.foldl_append]; rfl
theorem names_len (evs : List S36) : (namesF evs).length ≤ evs.length := by
  suffices h : ∀ (l : List S36) (acc : List Int), (l.foldl addN acc).length ≤ acc.length + l.length by
    have := h evs []
    simpa [namesF] using this
  intro l
  induction l with
  | nil => intro acc; simp
  | cons e l ih =>
    intro acc
    rw [List.foldl_cons]
    have := ih (addN acc e)
    have h2 : (addN acc e).length ≤ acc.length + 1 := by unfold addN; split <;> simp
    rw [List.length_cons]; omega
theorem take_snocE (l : List S36) (k : Nat) (h : k < l.length) : l.take (k + 1) = l.take k ++ [rd_T36 l (k : Int)] := by
  rw [List.take_succ_eq_append_getElem h]
  unfold rd_T36
  rw [Int.toNat_natCast, List.getD_eq_getElem?_getD, List.getElem?_eq_getElem h]; rfl
def seventhB (evs : List S36) (nm : Int) : Bool := decide ((namesF evs).length = 6) && !(namesF evs).contains nm
def varB (k : Int) : Bool := k == 2 || k == 4
def valB (k : Int) : Bool := k == 3 || k == 4
theorem infoEv : (Tryd.prog.info? 36).map (fun i => (i.zero, i.size, i.bytes)) = some (some (.agg #[(.int .i64 0), (.int .i64 0), (.int .i64 0), (.int .i64 0)]), 4, 32) := by kernel_rfl
theorem wrapE (x : Int) : IntKind.i64.wrap x = wrap64 x := by rw [IntKind.wrap_i64]; unfold wrap64; first | rfl | omega
end Go.Proofs.YtkjkceeopkfniaaDoor.P

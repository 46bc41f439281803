/- cycle.may, given. -/
import Derived.Test.YtimbamimabdmcaaP0
import Derived.Test.YtimbamimabdmcaaProg
import Derived.LoopTactic
import Derived.WalkKit
import Derived.OwnWalk
import Derived.Outline
import Derived.Lib.Hide
import Derived.RangeFuncNested
import Derived.RangeFuncBox
import Derived.RegionTactic
import Derived.Deep.QuietTactic
import Derived.BigQuiet
namespace Go.Proofs.Ytimbamimabdmcaa.P
set_option linter.unusedVariables false
set_option linter.unusedSimpArgs false
open Go Go.RowKit Go.Proofs.YtimbamimabdmcaaW.PrintWords Go.Proofs.YtimbamimabdmcaaW.PrintLast Go.Proofs.YtimbamimabdmcaaW.PrintMore

theorem odd_eq (x : Int) (n : Nat) (hx : 0 ≤ x) : (x / 2 ^ n != 0) = decide (2 ^ n ≤ x) := by
  have h2 : (0 : Int) < 2 ^ n := Int.pow_pos (by decide)
  rcases Int.lt_or_le x (2 ^ n) with h | h
  · rw [Int.ediv_eq_zero_of_lt hx h]
    simp [h]
  · have h1 : 1 ≤ x / 2 ^ n := (Int.le_ediv_iff_mul_le h2).2 (by omega)
    have h3 : (x / 2 ^ n != 0) = true := by simp; omega
    rw [h3]; simp [h]
theorem odd_any (A : Option Addr) (n c : Nat) (x : Int) (B : Nat) (W : World) (hn : n ≤ 6) (hx : 0 ≤ x ∧ x < 4294967296) (h : Boxed W B 22 (.slice A n c)) :
    Calls Try.prog 46 #[.int .u32 x, .pointer (some ⟨B, 0, none⟩)] W fun e w' => e = .returned (.bool (decide (2 ^ n ≤ x))) ∧ W = w' := by
  have hc := h.cell
  have hf := h.frozen
  go_enter Try.func46, Try.ntmps46
  go_wp2
  go_ret
  exact ⟨by show Ending.returned (.bool (x / 2 ^ n != 0)) = _; rw [odd_eq x n hx.1], rfl⟩
def idxOf (g : Int → Bool) : List Int → Nat → Int
  | [], _ => -1
  | x :: t, i => if g x then i else idxOf g t (i + 1)
theorem idxOf_any (g : Int → Bool) (l : List Int) : ∀ i, decide (idxOf g l i ≥ 0) = l.any g := by
  induction l with
  | nil => intro i; rfl
  | cons x t ih =>
    intro i
    unfold idxOf
    cases hg : g x with
    | true => simp [hg]
    | false => simp only [Bool.false_eq_true, if_false]; rw [ih]; simp [hg]
theorem idxOf_drop (g : Int → Bool) (l : List Int) (k : Nat) (h : k < l.length) : idxOf g (l.drop k) k = if g (rd l k) then (k : Int) else idxOf g (l.drop (k + 1)) (k + 1) := by
  rw [List.drop_eq_getElem_cons h]
  have : rd l k = l[k] := by unfold rd; simp [List.getD_eq_getElem?_getD, List.getElem?_eq_getElem h]
  rw [this]; rfl
theorem index_odd (A : Option Addr) (c n : Nat) (l : List Int) (A1 : Option Addr) (c1 : Nat) (B : Nat) (w : World) (hr : Kd.C (Kd.int .u32) w A l.length l) (hn : n ≤ 6) (hx : ∀ x ∈ l, 0 ≤ x ∧ x < 4294967296) (hb : Boxed w B 22 (.slice A1 n c1)) :
    Calls Try.prog 54 #[.slice A l.length c, .func (.func 46) #[] #[.pointer (some ⟨B, 0, none⟩)]] w fun e w' => e = .returned (.int .i64 (idxOf (fun x => decide (2 ^ n ≤ x)) l 0)) ∧ w = w' := by
  have HR := Lib.hid hr
  have hmax : l.length ≤ 9223372036854775807 := hr.2.1
  have HX := Lib.hid hx
  obtain ⟨g, hg⟩ : ∃ g : Int → Bool, g = fun x => decide (2 ^ n ≤ x) := ⟨_, rfl⟩
  rw [← hg]
  have HG := Lib.hid hg
  clear hr hg
  go_enter Try.func54, Try.ntmps54
  go_wp2
  go_loop [8] (fun i => ∃ k : Nat, k ≤ l.length ∧ i = .int .i64 k ∧ Hid (idxOf g l 0 = idxOf g (l.drop k) k)) (fun i => l.length - (intOf i).toNat)
  case atStart => exact ⟨0, Nat.zero_le _, rfl, Lib.hid rfl⟩
  case round =>
    obtain ⟨k, hk, rfl, hI⟩ := hrel
    by_cases hlt : k < l.length
    · obtain ⟨ad, rfl, hcell⟩ := Kd.at_int HR.out (k : Int) (by omega) (by omega)
      rw [Int.toNat_natCast] at hcell
      have hd := Lib.hid (idxOf_drop g l k hlt)
      have hro := HX.out (rd l k) (by unfold rd; simp [List.getD_eq_getElem?_getD, List.getElem?_eq_getElem hlt])
      have ho := odd_any A1 n c1 (rd l k) B w hn hro hb
      rw [show decide (2 ^ n ≤ rd l k) = g (rd l k) by rw [HG.out]] at ho
      have HO := Lib.hid ho
      cases hgx : g (rd l k) with
      | true =>
        rw [hgx] at ho
        have e1 := hd.out
        rw [hgx, if_pos rfl] at e1
        have e2 := Lib.hid (hI.out.trans e1)
        have HO := Lib.hid ho
        clear ho hgx hd hI e1
        go_wp2_with (go_at_call 46; refine HO.out.mono ?_; rintro e w' ⟨rfl, rfl⟩)
        go_ret
        exact ⟨by rw [e2.out]; rfl, rfl⟩
      | false =>
        rw [hgx] at ho
        have e1 := hd.out
        rw [hgx, if_neg (by simp)] at e1
        have e2 := Lib.hid (hI.out.trans e1)
        have HO := Lib.hid ho
        clear ho hgx hd hI e1
        go_wp2_with (go_at_call 46; refine HO.out.mono ?_; rintro e w' ⟨rfl, rfl⟩)
        go_round
        case rel => exact ⟨k + 1, by omega, by go_num, e2⟩
        case measure => simp [intOf]; omega
    · obtain rfl : k = l.length := by omega
      have e1 := hI.out
      rw [List.drop_length] at e1
      have e2 := Lib.hid e1
      clear hI e1
      go_wp2
      go_ret
      exact ⟨by rw [e2.out]; rfl, rfl⟩
theorem contains_odd (A : Option Addr) (c n : Nat) (l : List Int) (A1 : Option Addr) (c1 : Nat) (B : Nat) (w : World) (hr : Kd.C (Kd.int .u32) w A l.length l) (hn : n ≤ 6) (hx : ∀ x ∈ l, 0 ≤ x ∧ x < 4294967296) (hb : Boxed w B 22 (.slice A1 n c1)) :
    Calls Try.prog 47 #[.slice A l.length c, .func (.func 46) #[] #[.pointer (some ⟨B, 0, none⟩)]] w fun e w' => e = .returned (.bool (l.any (fun x => decide (2 ^ n ≤ x)))) ∧ w = w' := by
  have hi := index_odd A c n l A1 c1 B w hr hn hx hb
  have ha := Lib.hid (idxOf_any (fun x => decide (2 ^ n ≤ x)) l 0)
  obtain ⟨r, hr⟩ : ∃ r, r = idxOf (fun x => decide (2 ^ n ≤ x)) l 0 := ⟨_, rfl⟩
  rw [← hr] at ha hi
  clear hr
  go_enter Try.func47, Try.ntmps47
  go_wp2_with (go_at_call 54; refine hi.mono ?_; rintro e w' ⟨rfl, rfl⟩)
  go_ret
  exact ⟨by rw [← ha.out]; rfl, rfl⟩
/-- May edges be (in the range of their bits)? -/
def mayB (l : List Int) : Bool := decide (l.length ≤ 6) && !l.any (fun x => decide (2 ^ l.length ≤ x))
def cycle_may.f (l0 : List Int) : Option Bool := if (∀ x ∈ l0, 0 ≤ x ∧ x < 4294967296) then some (mayB l0) else none
theorem cycle_may.calls (A0 : Option Addr) (c0 : Nat) (l0 : List Int) (r : Bool) (w : World) (hr0 : Kd.C (Kd.int .u32) w A0 l0.length l0) (hc0 : l0.length ≤ c0) (h : cycle_may.f l0 = some r) :
    Calls Try.prog 26 #[.slice A0 l0.length c0] w fun e w' => e = .returned (.bool r) ∧ Below w.heap.size w w' := by
  unfold cycle_may.f at h
  split at h
  case isFalse => cases h
  rename_i hx
  have hv := Option.some.inj h
  unfold mayB at hv
  have HB := Boxed.new w 22 (.slice A0 l0.length c0)
  have hbl := (Below.refl _ w).alloc (Nat.le_refl _) (.cells #[.slice A0 l0.length c0] 22)
  by_cases hn : l0.length ≤ 6
  · have hd : decide ((l0.length : Int) ≤ 6) = true := decide_eq_true (by omega)
    have hcall := contains_odd A0 c0 l0.length l0 A0 c0 w.heap.size (w.alloc (.cells #[.slice A0 l0.length c0] 22)) (Kd.C_below hr0 hbl) hn hx HB
    rw [decide_eq_true hn, Bool.true_and] at hv
    obtain ⟨q, hq⟩ : ∃ q, q = l0.any (fun x => decide (2 ^ l0.length ≤ x)) := ⟨_, rfl⟩
    rw [← hq] at hcall hv
    have HC := Lib.hid hcall
    subst hv
    clear hcall hx hq h
    go_enter Try.func26, Try.ntmps26
    go_wp2_with (go_at_call 47; refine HC.out.mono ?_; rintro e w' ⟨rfl, rfl⟩)
    go_ret
    exact ⟨rfl, hbl⟩
  · have hd : decide ((l0.length : Int) ≤ 6) = false := decide_eq_false (by omega)
    rw [decide_eq_false hn, Bool.false_and] at hv
    subst hv
    clear hx h
    go_enter Try.func26, Try.ntmps26
    go_wp2
    go_ret
    exact ⟨rfl, hbl⟩
end Go.Proofs.Ytimbamimabdmcaa.P

/- extend.may's inner test, as cycle.may's. -/
import Derived.Test.YtimbamimabdmcaaGMay
import Derived.Test.YtimbamimabdmcaaProg
import Derived.LoopTactic
import Derived.WalkKit
import Derived.OwnWalk
import Derived.Outline
import Derived.Lib.Hide
import Derived.RangeFuncNested
import Derived.RangeFuncBox
import Derived.RegionTactic
import Derived.Deep.QuietTactic
import Derived.BigQuiet
namespace Go.Proofs.Ytimbamimabdmcaa.P
set_option linter.unusedVariables false
set_option linter.unusedSimpArgs false
open Go Go.RowKit Go.Proofs.YtimbamimabdmcaaW.PrintWords Go.Proofs.YtimbamimabdmcaaW.PrintLast Go.Proofs.YtimbamimabdmcaaW.PrintMore

theorem odd_anyX (A : Option Addr) (n c : Nat) (x : Int) (B : Nat) (W : World) (hn : n ≤ 6) (hx : 0 ≤ x ∧ x < 4294967296) (h : Boxed W B 22 (.slice A n c)) :
    Calls Try.prog 50 #[.int .u32 x, .pointer (some ⟨B, 0, none⟩)] W fun e w' => e = .returned (.bool (decide (2 ^ n ≤ x))) ∧ W = w' := by
  have hc := h.cell
  have hf := h.frozen
  go_enter Try.func50, Try.ntmps50
  go_wp2
  go_ret
  exact ⟨by show Ending.returned (.bool (x / 2 ^ n != 0)) = _; rw [odd_eq x n hx.1], rfl⟩
theorem index_oddX (A : Option Addr) (c n : Nat) (l : List Int) (A1 : Option Addr) (c1 : Nat) (B : Nat) (w : World) (hr : Kd.C (Kd.int .u32) w A l.length l) (hn : n ≤ 6) (hx : ∀ x ∈ l, 0 ≤ x ∧ x < 4294967296) (hb : Boxed w B 22 (.slice A1 n c1)) :
    Calls Try.prog 54 #[.slice A l.length c, .func (.func 50) #[] #[.pointer (some ⟨B, 0, none⟩)]] w fun e w' => e = .returned (.int .i64 (idxOf (fun x => decide (2 ^ n ≤ x)) l 0)) ∧ w = w' := by
  have HR := Lib.hid hr
  have hmax : l.length ≤ 9223372036854775807 := hr.2.1
  have HX := Lib.hid hx
  obtain ⟨g, hg⟩ : ∃ g : Int → Bool, g = fun x => decide (2 ^ n ≤ x) := ⟨_, rfl⟩
  rw [← hg]
  have HG := Lib.hid hg
  clear hr hg
  go_enter Try.func54, Try.ntmps54
  go_wp2
  go_loop [8] (fun i => ∃ k : Nat, k ≤ l.length ∧ i = .int .i64 k ∧ Hid (idxOf g l 0 = idxOf g (l.drop k) k)) (fun i => l.length - (intOf i).toNat)
  case atStart => exact ⟨0, Nat.zero_le _, rfl, Lib.hid rfl⟩
  case round =>
    obtain ⟨k, hk, rfl, hI⟩ := hrel
    by_cases hlt : k < l.length
    · obtain ⟨ad, rfl, hcell⟩ := Kd.at_int HR.out (k : Int) (by omega) (by omega)
      rw [Int.toNat_natCast] at hcell
      have hd := Lib.hid (idxOf_drop g l k hlt)
      have hro := HX.out (rd l k) (by unfold rd; simp [List.getD_eq_getElem?_getD, List.getElem?_eq_getElem hlt])
      have ho := odd_anyX A1 n c1 (rd l k) B w hn hro hb
      rw [show decide (2 ^ n ≤ rd l k) = g (rd l k) by rw [HG.out]] at ho
      have HO := Lib.hid ho
      cases hgx : g (rd l k) with
      | true =>
        rw [hgx] at ho
        have e1 := hd.out
        rw [hgx, if_pos rfl] at e1
        have e2 := Lib.hid (hI.out.trans e1)
        have HO := Lib.hid ho
        clear ho hgx hd hI e1
        go_wp2_with (go_at_call 50; refine HO.out.mono ?_; rintro e w' ⟨rfl, rfl⟩)
        go_ret
        exact ⟨by rw [e2.out]; rfl, rfl⟩
      | false =>
        rw [hgx] at ho
        have e1 := hd.out
        rw [hgx, if_neg (by simp)] at e1
        have e2 := Lib.hid (hI.out.trans e1)
        have HO := Lib.hid ho
        clear ho hgx hd hI e1
        go_wp2_with (go_at_call 50; refine HO.out.mono ?_; rintro e w' ⟨rfl, rfl⟩)
        go_round
        case rel => exact ⟨k + 1, by omega, by go_num, e2⟩
        case measure => simp [intOf]; omega
    · obtain rfl : k = l.length := by omega
      have e1 := hI.out
      rw [List.drop_length] at e1
      have e2 := Lib.hid e1
      clear hI e1
      go_wp2
      go_ret
      exact ⟨by rw [e2.out]; rfl, rfl⟩
theorem contains_oddX (A : Option Addr) (c n : Nat) (l : List Int) (A1 : Option Addr) (c1 : Nat) (B : Nat) (w : World) (hr : Kd.C (Kd.int .u32) w A l.length l) (hn : n ≤ 6) (hx : ∀ x ∈ l, 0 ≤ x ∧ x < 4294967296) (hb : Boxed w B 22 (.slice A1 n c1)) :
    Calls Try.prog 47 #[.slice A l.length c, .func (.func 50) #[] #[.pointer (some ⟨B, 0, none⟩)]] w fun e w' => e = .returned (.bool (l.any (fun x => decide (2 ^ n ≤ x)))) ∧ w = w' := by
  have hi := index_oddX A c n l A1 c1 B w hr hn hx hb
  have ha := Lib.hid (idxOf_any (fun x => decide (2 ^ n ≤ x)) l 0)
  obtain ⟨r, hr⟩ : ∃ r, r = idxOf (fun x => decide (2 ^ n ≤ x)) l 0 := ⟨_, rfl⟩
  rw [← hr] at ha hi
  clear hr
  go_enter Try.func47, Try.ntmps47
  go_wp2_with (go_at_call 54; refine hi.mono ?_; rintro e w' ⟨rfl, rfl⟩)
  go_ret
  exact ⟨by rw [← ha.out]; rfl, rfl⟩
end Go.Proofs.Ytimbamimabdmcaa.P

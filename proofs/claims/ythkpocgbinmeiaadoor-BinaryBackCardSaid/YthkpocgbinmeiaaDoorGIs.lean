/- binary.Is, given. -/
import Derived.Test.YthkpocgbinmeiaaDoorGSeventh
import Derived.Test.YthkpocgbinmeiaaDoorP0
namespace Go.Proofs.YthkpocgbinmeiaaDoor.P
set_option linter.unusedVariables false
set_option linter.unusedSimpArgs false
open Go Go.RowKit Go.Proofs.YthkpocgbinmeiaaDoorW.PrintWords Go.Proofs.YthkpocgbinmeiaaDoorW.PrintLast Go.Proofs.YthkpocgbinmeiaaDoorW.PrintMore Go.Proofs.YthkpocgbinmeiaaDoor.U

/-- A byte that no text has. -/
def badC (x : Int) : Bool := (x != 9) && ((x != 10) && (decide (x < 32) || decide (126 < x)))
theorem isOne_any (x : Int) (w : World) : Calls Tryd.prog 44 #[.int .u8 x] w fun e w' => e = .returned (.bool (badC x)) ∧ w = w' := by
  by_cases h9 : x = 9
  · subst h9
    go_enter Tryd.func44, Tryd.ntmps44
    go_wp2
    go_ret
    exact ⟨rfl, rfl⟩
  · have a9 : (x != 9) = true := by simpa using h9
    by_cases h10 : x = 10
    · subst h10
      go_enter Tryd.func44, Tryd.ntmps44
      go_wp2
      go_ret
      exact ⟨rfl, rfl⟩
    · have a10 : (x != 10) = true := by simpa using h10
      by_cases h32 : x < 32
      · have a32 : decide (x < 32) = true := decide_eq_true h32
        have hb : badC x = true := by unfold badC; rw [a9, a10, a32]; rfl
        rw [hb]
        clear h9 h10 h32 hb
        go_enter Tryd.func44, Tryd.ntmps44
        go_wp2
        go_ret
        exact ⟨rfl, rfl⟩
      · have a32 : decide (x < 32) = false := decide_eq_false h32
        by_cases h126 : 126 < x
        · have a126 : decide (126 < x) = true := decide_eq_true h126
          have hb : badC x = true := by unfold badC; rw [a9, a10, a32, a126]; rfl
          rw [hb]
          clear h9 h10 hb
          go_enter Tryd.func44, Tryd.ntmps44
          go_wp2
          go_ret
          exact ⟨rfl, rfl⟩
        · have a126 : decide (126 < x) = false := decide_eq_false h126
          have hb : badC x = false := by unfold badC; rw [a9, a10, a32, a126]; rfl
          rw [hb]
          clear h9 h10 hb
          go_enter Tryd.func44, Tryd.ntmps44
          go_wp2
          go_ret
          exact ⟨rfl, rfl⟩
theorem index_is (A : Option Addr) (c : Nat) (l : List Int) (w : World) (hr : Kd.C (Kd.int .u8) w A l.length l) :
    Calls Tryd.prog 81 #[.slice A l.length c, .func (.func 44) #[] #[]] w fun e w' => e = .returned (.int .i64 (idxOf badC l 0)) ∧ w = w' := by
  have HR := Lib.hid hr
  have hmax : l.length ≤ 9223372036854775807 := hr.2.1
  obtain ⟨g, hg⟩ : ∃ g : Int → Bool, g = badC := ⟨_, rfl⟩
  rw [← hg]
  have HG := Lib.hid hg
  clear hr hg
  go_enter Tryd.func81, Tryd.ntmps81
  go_wp2
  go_loop [8] (fun i => ∃ k : Nat, k ≤ l.length ∧ i = .int .i64 k ∧ Hid (idxOf g l 0 = idxOf g (l.drop k) k)) (fun i => l.length - (intOf i).toNat)
  case atStart => exact ⟨0, Nat.zero_le _, rfl, Lib.hid rfl⟩
  case round =>
    obtain ⟨k, hk, rfl, hI⟩ := hrel
    by_cases hlt : k < l.length
    · obtain ⟨ad, rfl, hcell⟩ := Kd.at_int HR.out (k : Int) (by omega) (by omega)
      rw [Int.toNat_natCast] at hcell
      have hd := Lib.hid (idxOf_drop g l k hlt)
      have ho := isOne_any (rd l k) w
      rw [show badC (rd l k) = g (rd l k) by rw [HG.out]] at ho
      cases hgx : g (rd l k) with
      | true =>
        rw [hgx] at ho
        have e1 := hd.out
        rw [hgx, if_pos rfl] at e1
        have e2 := Lib.hid (hI.out.trans e1)
        have HO := Lib.hid ho
        clear ho hgx hd hI e1
        go_wp2_with (go_at_call 44; refine HO.out.mono ?_; rintro e w' ⟨rfl, rfl⟩)
        go_ret
        exact ⟨by rw [e2.out]; rfl, rfl⟩
      | false =>
        rw [hgx] at ho
        have e1 := hd.out
        rw [hgx, if_neg (by simp)] at e1
        have e2 := Lib.hid (hI.out.trans e1)
        have HO := Lib.hid ho
        clear ho hgx hd hI e1
        go_wp2_with (go_at_call 44; refine HO.out.mono ?_; rintro e w' ⟨rfl, rfl⟩)
        go_round
        case rel => exact ⟨k + 1, by omega, by go_num, e2⟩
        case measure => simp [intOf]; omega
    · obtain rfl : k = l.length := by omega
      have e1 := hI.out
      rw [List.drop_length] at e1
      have e2 := Lib.hid e1
      clear hI e1
      go_wp2
      go_ret
      exact ⟨by rw [e2.out]; rfl, rfl⟩
theorem contains_is (A : Option Addr) (c : Nat) (l : List Int) (w : World) (hr : Kd.C (Kd.int .u8) w A l.length l) :
    Calls Tryd.prog 43 #[.slice A l.length c, .func (.func 44) #[] #[]] w fun e w' => e = .returned (.bool (l.any badC)) ∧ w = w' := by
  have hi := index_is A c l w hr
  have ha := Lib.hid (idxOf_any badC l 0)
  obtain ⟨r, hr⟩ : ∃ r, r = idxOf badC l 0 := ⟨_, rfl⟩
  rw [← hr] at ha hi
  clear hr
  go_enter Tryd.func43, Tryd.ntmps43
  go_wp2_with (go_at_call 81; refine hi.mono ?_; rintro e w' ⟨rfl, rfl⟩)
  go_ret
  exact ⟨by rw [← ha.out]; rfl, rfl⟩
def binary_Is.f (l : List Int) : Option Bool := some (!l.any badC)
theorem binary_Is.calls (A0 : Option Addr) (c0 : Nat) (l0 : List Int) (r : Bool) (w : World) (hr0 : Kd.C (Kd.int .u8) w A0 l0.length l0) (hc0 : l0.length ≤ c0) (h : binary_Is.f l0 = some r) :
    Calls Tryd.prog 13 #[.slice A0 l0.length c0] w fun e w' => e = .returned (.bool r) ∧ Below w.heap.size w w' := by
  have hv := Option.some.inj h
  have hcall := contains_is A0 c0 l0 w hr0
  obtain ⟨q, hq⟩ : ∃ q, q = l0.any badC := ⟨_, rfl⟩
  rw [← hq] at hcall hv
  have HC := Lib.hid hcall
  subst hv
  clear hcall hq
  go_enter Tryd.func13, Tryd.ntmps13
  go_wp2_with (go_at_call 43; refine HC.out.mono ?_; rintro e w' ⟨rfl, rfl⟩)
  go_ret
  exact ⟨rfl, Below.refl _ _⟩
end Go.Proofs.YthkpocgbinmeiaaDoor.P

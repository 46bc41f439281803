/- strings.Cut at "#", given. -/
import Derived.Test.YthkpocgbinmeiaaDoorUNum
import Derived.Test.YthkpocgbinmeiaaDoorP0
import Derived.Test.YthkpocgbinmeiaaDoorProg
import Derived.LoopTactic
import Derived.WalkKit
import Derived.OwnWalk
import Derived.Outline
import Derived.Lib.Hide
import Derived.Lib.Bytealg
import Derived.Lib.Strings
import Derived.WalkSpells
import Derived.RegionTactic
import Derived.Deep.QuietTactic
import Derived.BigQuiet
namespace Go.Proofs.YthkpocgbinmeiaaDoor.P
set_option linter.unusedVariables false
set_option linter.unusedSimpArgs false
open Go Go.RowKit Go.Proofs.YthkpocgbinmeiaaDoor.U Go.Proofs.YthkpocgbinmeiaaDoorW.PrintWords Go.Proofs.YthkpocgbinmeiaaDoorW.PrintLast Go.Proofs.YthkpocgbinmeiaaDoorW.PrintMore

theorem callByte (s : ByteArray) (w : World) : (callFunc 129 #[.string s, .int .u8 35]).run Tryd.prog w = .ok (.value (.int .i64 (Lib.indexByte s.data.toList 35))) w := by
  rw [run_callFunc_extern Tryd.func129 (by kernel_rfl) (by kernel_rfl) (by kernel_rfl) (e := Extern.BytealgIndexByte.indexByte) (by kernel_rfl), Lib.run_indexByteString]
  rfl
theorem index_byte (s : ByteArray) (w : World) : Calls Tryd.prog 122 #[.string s, .int .u8 35] w fun e w' => e = .returned (.int .i64 (Lib.indexByte s.data.toList 35)) ∧ w = w' := by
  have hx := callByte s w
  go_enter Tryd.func122, Tryd.ntmps122
  go_wp2
  go_ret
  exact ⟨rfl, rfl⟩
theorem index_hash (s : ByteArray) (w : World) : Calls Tryd.prog 112 #[.string s, .string ⟨#[35]⟩] w fun e w' => e = .returned (.int .i64 (Lib.indexByte s.data.toList 35)) ∧ w = w' := by
  cases hs : (([35] : List UInt8) == s.toList) with
  | true =>
    have h1 : s.toList = [35] := by simpa using (beq_iff_eq.mp hs).symm
    have h2 : Lib.indexByte s.data.toList 35 = 0 := by
      have : s.data.toList = s.toList := by rw [Lib.toList_data]
      rw [this, h1]; rfl
    rw [h2]
    clear h1 h2
    go_enter Tryd.func112, Tryd.ntmps112
    go_wp2
    go_ret
    exact ⟨rfl, rfl⟩
  | false =>
    go_enter Tryd.func112, Tryd.ntmps112
    go_wp2_with (go_at_call 122; refine (index_byte _ _).mono ?_; rintro e w' ⟨rfl, rfl⟩)
    go_ret
    exact ⟨rfl, rfl⟩
/-- What lies ahead of the byte 35, behind it, and whether it is there. -/
def cutHash (s : ByteArray) : ByteArray × ByteArray × Bool := if 0 ≤ Lib.indexByte s.data.toList 35 then (s.extract 0 (Lib.indexByte s.data.toList 35).toNat, s.extract ((Lib.indexByte s.data.toList 35).toNat + 1) s.size, true) else (s, ⟨#[]⟩, false)
theorem indexByte_lt (l : List UInt8) (c : UInt8) (h : 0 ≤ Lib.indexByte l c) : Lib.indexByte l c < l.length := by
  induction l with
  | nil => simp [Lib.indexByte] at h
  | cons b l ih =>
    unfold Lib.indexByte at h ⊢
    by_cases h1 : (b == c) = true
    · rw [if_pos h1]; simp
    · rw [if_neg h1] at h ⊢
      by_cases h2 : (Lib.indexByte l c == -1) = true
      · rw [if_pos h2] at h; omega
      · rw [if_neg h2] at h ⊢
        have := ih (by have := Lib.indexByte_ge l c; have h3 : ¬ Lib.indexByte l c = -1 := by simpa using h2
                       omega)
        simp; omega
theorem cut_lite (s : ByteArray) (hs : s.size ≤ 9223372036854775806) (w : World) : Calls Tryd.prog 100 #[.string s, .string ⟨#[35]⟩] w fun e w' => e = .returned (.tuple #[.string (cutHash s).1, .string (cutHash s).2.1, .bool (cutHash s).2.2]) ∧ Drawn0 w w' := by
  obtain ⟨i, hi⟩ : ∃ i, i = Lib.indexByte s.data.toList 35 := ⟨_, rfl⟩
  have HI := Lib.hid hi
  unfold cutHash
  rw [← hi]
  by_cases h0 : 0 ≤ i
  · rw [if_pos h0]
    have hlt : i < s.size := by rw [hi, Lib.size_eq]; exact indexByte_lt _ _ (by rw [← hi]; exact h0)
    obtain ⟨j, rfl⟩ := Int.eq_ofNat_of_zero_le h0
    clear hi
    go_enter Tryd.func100, Tryd.ntmps100
    go_wp2_with (go_at_call 112; refine (index_hash _ _).mono ?_; rintro e w' ⟨rfl, rfl⟩; rw [← HI.out])
    go_quiet (fail)
    go_wp2
    go_ret3
    exact ⟨rfl, ⟨⟨_, rfl⟩⟩⟩
  · rw [if_neg h0]
    go_enter Tryd.func100, Tryd.ntmps100
    go_wp2_with (go_at_call 112; refine (index_hash _ _).mono ?_; rintro e w' ⟨rfl, rfl⟩; rw [← HI.out])
    go_ret3
    exact ⟨rfl, Drawn0.refl _⟩
def strings_Cut.f (a0 a1 : ByteArray) : Option (ByteArray × ByteArray × Bool) := if a1 = ⟨#[35]⟩ ∧ a0.size ≤ 9223372036854775806 then some (cutHash a0) else none
theorem strings_Cut.calls (a0 a1 : ByteArray) (r1 : ByteArray) (r2 : ByteArray) (r3 : Bool) (w : World) (h : strings_Cut.f a0 a1 = some (r1, r2, r3)) :
    Calls Tryd.prog 75 #[.string a0, .string a1] w fun e w' => e = .returned (.tuple #[.string r1, .string r2, .bool r3]) ∧ Drawn0 w w' := by
  unfold strings_Cut.f at h
  split at h
  case isFalse => cases h
  rename_i h0
  obtain ⟨rfl, hs⟩ := h0
  have hc := cut_lite a0 hs w
  rw [Option.some.inj h] at hc
  clear h
  go_enter Tryd.func75, Tryd.ntmps75
  go_wp2_with (go_at_call 100; refine hc.mono ?_; rintro e w' ⟨rfl, hw⟩)
  go_ret3
  exact ⟨rfl, hw⟩
end Go.Proofs.YthkpocgbinmeiaaDoor.P

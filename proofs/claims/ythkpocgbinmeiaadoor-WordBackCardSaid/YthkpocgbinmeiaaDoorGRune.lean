/- strings.IndexRune of a rune of 128 or more, in " \t#": it is not there. -/
import Derived.Test.YthkpocgbinmeiaaDoorUNum
import Derived.Test.YthkpocgbinmeiaaDoorP0
import Derived.Shelf.Strings.IndexAnyAll
import Derived.Lib.OthersKept
import Derived.Lib.Hide
import Derived.Scope
import Derived.Deep.Cut
import Derived.Deep.RegionWith
import Derived.Laws.Runes
namespace Go.Proofs.YthkpocgbinmeiaaDoor.P
set_option linter.unusedVariables false
set_option linter.unusedSimpArgs false
open Go Go.RowKit Go.Shelf Go.Proofs.YthkpocgbinmeiaaDoor.U Go.Proofs.YthkpocgbinmeiaaDoorW.PrintWords Go.Proofs.YthkpocgbinmeiaaDoorW.PrintLast Go.Proofs.YthkpocgbinmeiaaDoorW.PrintMore

def vB (r : Int) : Bool := decide (r < 55296) || decide (57343 < r)
theorem vB_valid {r : Int} (h0 : 128 ≤ r) (h1 : r ≤ 1114111) (h : vB r = true) : Utf8.valid r = true := by
  unfold vB at h
  unfold Utf8.valid
  simp at h ⊢
  omega
theorem valid_any (r : Int) (w : World) (h0 : 128 ≤ r) (h1 : r ≤ 1114111) : Calls Tryd.prog 114 #[.int .i32 r] w fun e w' => e = .returned (.bool (vB r)) ∧ w = w' := by
  unfold vB
  by_cases ha : r < 55296
  · have e1 : decide (0 ≤ r) = true := decide_eq_true (by omega)
    have e2 : decide (r < 55296) = true := decide_eq_true ha
    rw [e2, Bool.true_or]
    go_enter Tryd.func114, Tryd.ntmps114
    go_wp2
    go_ret
    exact ⟨rfl, rfl⟩
  · have e1 : decide (0 ≤ r) = true := decide_eq_true (by omega)
    have e2 : decide (r < 55296) = false := decide_eq_false ha
    by_cases hb : 57343 < r
    · have e3 : decide (57343 < r) = true := decide_eq_true hb
      have e4 : decide (r ≤ 1114111) = true := decide_eq_true h1
      rw [e2, e3, Bool.false_or]
      go_enter Tryd.func114, Tryd.ntmps114
      go_wp2
      go_ret
      exact ⟨rfl, rfl⟩
    · have e3 : decide (57343 < r) = false := decide_eq_false hb
      rw [e2, e3, Bool.false_or]
      go_enter Tryd.func114, Tryd.ntmps114
      go_wp2
      go_ret
      exact ⟨rfl, rfl⟩
set_option maxHeartbeats 4000000 in
set_option maxRecDepth 1000000 in
theorem rune_invalid (r : Int) (w : World) (h0 : 128 ≤ r) (h1 : r ≤ 1114111) (h2 : r ≠ 65533) (hv : vB r = false) : Calls Tryd.prog 101 #[.string ⟨#[32, 9, 35]⟩, .int .i32 r] w fun e w' => e = .returned (.int .i64 (-1)) ∧ Below w.heap.size w w' := by
  have e1 : decide (0 ≤ r) = true := decide_eq_true (by omega)
  have e2 : decide (r < 128) = false := decide_eq_false (by omega)
  have e3 : (r == 65533) = false := beq_eq_false_iff_ne.2 h2
  go_enter Tryd.func101, Tryd.ntmps101
  go_wp2_with (go_at_call 114; refine (valid_any _ _ h0 h1).mono ?_; rintro e w' ⟨rfl, rfl⟩; rw [hv])
  go_ret
  exact ⟨rfl, Below.refl _ _⟩
theorem callByteG (s : ByteArray) (c : UInt8) (w : World) : (callFunc 129 #[.string s, .int .u8 (c.toNat : Int)]).run Tryd.prog w = .ok (.value (.int .i64 (Lib.indexByte s.data.toList c))) w := by
  rw [run_callFunc_extern Tryd.func129 (by kernel_rfl) (by kernel_rfl) (by kernel_rfl) (e := Extern.BytealgIndexByte.indexByte) (by kernel_rfl), Lib.run_indexByteString]
  simp
theorem index_byteG (s : ByteArray) (c : UInt8) (w : World) : Calls Tryd.prog 122 #[.string s, .int .u8 (c.toNat : Int)] w fun e w' => e = .returned (.int .i64 (Lib.indexByte s.data.toList c)) ∧ w = w' := by
  have hx := callByteG s c w
  go_enter Tryd.func122, Tryd.ntmps122
  go_wp2
  go_ret
  exact ⟨rfl, rfl⟩
theorem strings_index_byteG (s : ByteArray) (c : UInt8) (w : World) : Calls Tryd.prog 113 #[.string s, .int .u8 (c.toNat : Int)] w fun e w' => e = .returned (.int .i64 (Lib.indexByte s.data.toList c)) ∧ w = w' := by
  go_enter Tryd.func113, Tryd.ntmps113
  go_wp2_with (go_at_call 122; refine (index_byteG _ _ _).mono ?_; rintro e w' ⟨rfl, rfl⟩)
  go_ret
  exact ⟨rfl, rfl⟩
set_option maxHeartbeats 4000000 in
set_option maxRecDepth 1000000 in
theorem rune_valid4 (r : Int) (w : World) (h0 : 128 ≤ r) (h1 : r ≤ 1114111) (h2 : r ≠ 65533) (hv : vB r = true) (q : ByteArray) (hq : Utf8.encode r = q) (hn : q.size = 4) : Calls Tryd.prog 101 #[.string ⟨#[32, 9, 35]⟩, .int .i32 r] w fun e w' => e = .returned (.int .i64 (-1)) ∧ Below w.heap.size w w' := by
  have e1 : decide (0 ≤ r) = true := decide_eq_true (by omega)
  have e2 : decide (r < 128) = false := decide_eq_false (by omega)
  have e3 : (r == 65533) = false := beq_eq_false_iff_ne.2 h2
  go_enter Tryd.func101, Tryd.ntmps101
  go_wp2_with (go_at_call 114; refine (valid_any _ _ h0 h1).mono ?_; rintro e w' ⟨rfl, rfl⟩; rw [hv])
  have hcv : ∀ w, (convert 21 9 (.int .i32 r)).run Tryd.prog w = .ok (.string q) w := fun w => by rw [← hq]; exact run_convert_int_string w _ _ _ _ (by kernel_rfl) (by kernel_rfl)
  have hqs : (q.size : Int) = 4 := by omega
  refine wp_scope_straight ?_
  go_wp2
  go_loopw [9] (fun v9 wr => v9 = .int .i64 3 ∧ wr = w) (fun _ _ => 0)
  case atStart => exact ⟨by simp, rfl⟩
  case round =>
    obtain ⟨rfl, rfl⟩ := hrel
    go_wp2
    (try simp only [Exit.noGoto, Exit.inBlock])
    go_ret
    exact ⟨rfl, Below.refl _ _⟩
set_option maxHeartbeats 4000000 in
set_option maxRecDepth 1000000 in
theorem rune_valid2 (r : Int) (w : World) (h0 : 128 ≤ r) (h1 : r ≤ 1114111) (h2 : r ≠ 65533) (hv : vB r = true) (q : ByteArray) (hq : Utf8.encode r = q) (hn : q.size = 2) (b : UInt8) (hb : q[1]'(by omega) = b) (hb2 : 128 ≤ b.toNat) : Calls Tryd.prog 101 #[.string ⟨#[32, 9, 35]⟩, .int .i32 r] w fun e w' => e = .returned (.int .i64 (-1)) ∧ Below w.heap.size w w' := by
  have e1 : decide (0 ≤ r) = true := decide_eq_true (by omega)
  have e2 : decide (r < 128) = false := decide_eq_false (by omega)
  have e3 : (r == 65533) = false := beq_eq_false_iff_ne.2 h2
  go_enter Tryd.func101, Tryd.ntmps101
  go_wp2_with (go_at_call 114; refine (valid_any _ _ h0 h1).mono ?_; rintro e w' ⟨rfl, rfl⟩; rw [hv])
  have hcv : ∀ w, (convert 21 9 (.int .i32 r)).run Tryd.prog w = .ok (.string q) w := fun w => by rw [← hq]; exact run_convert_int_string w _ _ _ _ (by kernel_rfl) (by kernel_rfl)
  have hqs : (q.size : Int) = 2 := by omega
  refine wp_scope_straight ?_
  go_wp2
  go_loopw [9] (fun v9 wr => v9 = .int .i64 1 ∧ wr = w) (fun _ _ => 0)
  case atStart => exact ⟨by simp, rfl⟩
  case round =>
    obtain ⟨rfl, rfl⟩ := hrel
    go_wp2
    refine wp_scope_straight ?_
    have hlt : (1 : Int) < q.size := by omega
    have hne2 : ((((⟨#[32, 9, 35]⟩ : ByteArray)[1]).toNat : Int) != (b.toNat : Int)) = true := by
      have h9 : ((⟨#[32, 9, 35]⟩ : ByteArray)[1]) = 9 := rfl
      rw [h9]
      have : (9 : UInt8).toNat = 9 := rfl
      rw [this]
      exact bne_iff_ne.2 (by omega)
    have hix : Lib.indexByte ((⟨#[32, 9, 35]⟩ : ByteArray).extract 2 3).data.toList b = -1 := by
      have h35 : ((⟨#[32, 9, 35]⟩ : ByteArray).extract 2 3).data.toList = [35] := by decide
      rw [h35]
      have hb35 : ((35 : UInt8) == b) = false := by
        rw [beq_eq_false_iff_ne]
        rintro rfl
        have : (35 : UInt8).toNat = 35 := rfl
        omega
      unfold Lib.indexByte
      rw [if_neg (by rw [hb35]; exact Bool.false_ne_true)]
      rfl
    go_upto_region 6 with (fail)
    go_quiet (fail)
    have hw2 : IntKind.i64.wrap 2 = 2 := by decide
    go_upto_region 7 with (fail)
    go_region_with (first | (go_at_call 113; refine (strings_index_byteG _ _ _).mono ?_; rintro e w' ⟨rfl, rfl⟩; rw [hix]))
    all_goals
      go_wp2
      simp +zetaDelta only [Exit.noGoto, Exit.inBlock, Exit.then]
      go_ret
      exact ⟨rfl, by first | exact Below.refl _ _ | exact pw_below_drewN (Below.refl _ _) _⟩
set_option maxHeartbeats 4000000 in
set_option maxRecDepth 1000000 in
theorem rune_valid3 (r : Int) (w : World) (h0 : 128 ≤ r) (h1 : r ≤ 1114111) (h2 : r ≠ 65533) (hv : vB r = true) (q : ByteArray) (hq : Utf8.encode r = q) (hn : q.size = 3) (b : UInt8) (hb : q[2]'(by omega) = b) (hb2 : 128 ≤ b.toNat) : Calls Tryd.prog 101 #[.string ⟨#[32, 9, 35]⟩, .int .i32 r] w fun e w' => e = .returned (.int .i64 (-1)) ∧ Below w.heap.size w w' := by
  have e1 : decide (0 ≤ r) = true := decide_eq_true (by omega)
  have e2 : decide (r < 128) = false := decide_eq_false (by omega)
  have e3 : (r == 65533) = false := beq_eq_false_iff_ne.2 h2
  go_enter Tryd.func101, Tryd.ntmps101
  go_wp2_with (go_at_call 114; refine (valid_any _ _ h0 h1).mono ?_; rintro e w' ⟨rfl, rfl⟩; rw [hv])
  have hcv : ∀ w, (convert 21 9 (.int .i32 r)).run Tryd.prog w = .ok (.string q) w := fun w => by rw [← hq]; exact run_convert_int_string w _ _ _ _ (by kernel_rfl) (by kernel_rfl)
  have hqs : (q.size : Int) = 3 := by omega
  refine wp_scope_straight ?_
  go_wp2
  go_loopw [9] (fun v9 wr => v9 = .int .i64 2 ∧ wr = w) (fun _ _ => 0)
  case atStart => exact ⟨by simp, rfl⟩
  case round =>
    obtain ⟨rfl, rfl⟩ := hrel
    go_wp2
    refine wp_scope_straight ?_
    have hlt : (2 : Int) < q.size := by omega
    have hne2 : ((((⟨#[32, 9, 35]⟩ : ByteArray)[2]).toNat : Int) != (b.toNat : Int)) = true := by
      have h9 : ((⟨#[32, 9, 35]⟩ : ByteArray)[2]) = 35 := rfl
      rw [h9]
      have : (35 : UInt8).toNat = 35 := rfl
      rw [this]
      exact bne_iff_ne.2 (by omega)
    have hix : Lib.indexByte ByteArray.empty.data.toList b = -1 := rfl
    go_upto_region 6 with (fail)
    go_quiet (fail)
    have hw2 : IntKind.i64.wrap 3 = 3 := by decide
    go_upto_region 7 with (fail)
    go_region_with (first | (go_at_call 113; refine (strings_index_byteG _ _ _).mono ?_; rintro e w' ⟨rfl, rfl⟩; rw [hix]))
    all_goals
      go_wp2
      simp +zetaDelta only [Exit.noGoto, Exit.inBlock, Exit.then]
      go_ret
      exact ⟨rfl, by first | exact Below.refl _ _ | exact pw_below_drewN (Below.refl _ _) _⟩
end Go.Proofs.YthkpocgbinmeiaaDoor.P

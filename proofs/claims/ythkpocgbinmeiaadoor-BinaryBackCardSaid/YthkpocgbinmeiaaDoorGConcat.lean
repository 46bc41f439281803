/- slices.Concat over rows of bytes, given: all rows, one behind the other, in a row of its own; nothing that lay has turned. -/
import Derived.Test.YthkpocgbinmeiaaDoorBGConcat
import Derived.Test.YthkpocgbinmeiaaDoorUNum
import Derived.LoopTactic
import Derived.WalkKit
import Derived.Outline
import Derived.Lib.Hide
namespace Go.Proofs.YthkpocgbinmeiaaDoor.P
set_option linter.unusedVariables false
set_option linter.unusedSimpArgs false
open Go Go.RowKit Go.Proofs.YthkpocgbinmeiaaDoor.U Go.Proofs.YthkpocgbinmeiaaDoorW.PrintWords Go.Proofs.YthkpocgbinmeiaaDoorW.PrintLast Go.Proofs.YthkpocgbinmeiaaDoorW.PrintMore

theorem infoCat : (Tryd.prog.info? 5).map (fun i => (i.zero, i.size, i.bytes)) = some (some (.int .u8 0), 1, 1) := by kernel_rfl
theorem infoCats : (Tryd.prog.info? 23).map (fun i => (i.zero, i.size, i.bytes)) = some (some (.slice none 0 0), 1, 24) := by kernel_rfl
set_option maxHeartbeats 1000000 in
theorem grow_nil (n : Nat) (hn : n ≤ 140737488355328) (w : World) :
    Calls Tryd.prog 80 #[.slice none 0 0, .int .i64 n] w fun e w' => ∃ v, e = .returned v ∧ Kd.R (Kd.int .u8) 5 w' w.heap.size (fun _ => True) v [] ∧ Below w.heap.size w w' := by
  by_cases h0 : n = 0
  · subst h0
    go_enter Tryd.func80, Tryd.ntmps80
    go_wp2
    go_ret
    exact ⟨_, rfl, Kd.R_nil _ _ _ _ _, Below.refl _ _⟩
  · have hp : decide (0 < (n : Int)) = true := decide_eq_true (by omega)
    have hq : decide ((n : Int) < 0) = false := decide_eq_false (by omega)
    go_enter Tryd.func80, Tryd.ntmps80
    go_wp2_with (at_builtin; refine Kd.R_append_zeros (Kd.int .u8) w.heap.size rfl _ _ 23 3 5 (.int .u8 0) 1 rfl Tryd.underlying23 Tryd.underlying3 infoCat rfl (by decide) (by decide) (.slice none 0 0) [] 0 (n : Int) (fun _ => True) rfl rfl rfl (fun _ _ => trivial) (Kd.R_nil _ _ _ _ _) (by omega) (Below.refl _ _) (Nat.le_refl _) (by simp; omega) ?_; intro v1 w1 hR hb hg hat; obtain ⟨A, c, rfl⟩ := Kd.R_slice hR)
    go_ret
    refine ⟨_, rfl, ?_, hb⟩
    simpa using Kd.R_take (m := 0) hR (by omega)
/-- A row's element that is itself a row. -/
theorem at_cat {w : World} {A : Option Addr} {n : Nat} {xs : List (List Int)} (h : Kd.C (Kd.slice 5 (Kd.int .u8)) w A n xs) (i : Nat) (h1 : i < n) : ∃ ad A0 c0 y, Hid (y = xs.getD i []) ∧ A = some ad ∧ w.cell? (ad.add i) = some (.slice A0 y.length c0) ∧ y.length ≤ c0 ∧ Hid ((Kd.int .u8).C w A0 y.length y) := by
  obtain ⟨ad, c, e, _, hK, hc0⟩ := Kd.C_get h ([] : List Int) (i : Int) (by omega) (by omega)
  have hc : ∀ j u, c[j]? = some u → w.cell? (ad.add ((i : Int).toNat * 1 + j)) = some u := hc0
  obtain ⟨A0, c0, rfl, l0, g0⟩ := hK
  exact ⟨ad, A0, c0, _, Lib.hid rfl, e, by have hq := hc 0 _ rfl; rwa [Nat.mul_one, Nat.add_zero] at hq, l0, Lib.hid g0⟩
def slices_Concat_byte_byte.f (l0 : List (List Int)) : Option (List Int) := if l0.flatten.length ≤ 140737488355328 then some l0.flatten else none
def catRow (xs : List (List Int)) (k : Nat) : List Int := (xs.take k).flatten
def catLen (xs : List (List Int)) (k : Nat) : Nat := (catRow xs k).length
theorem cat_succ (xs : List (List Int)) (k : Nat) (h : k < xs.length) : catRow xs (k + 1) = catRow xs k ++ xs.getD k [] := by
  unfold catRow
  rw [List.take_succ_eq_append_getElem h, List.flatten_append, List.getD_eq_getElem?_getD, List.getElem?_eq_getElem h]; simp
theorem cat_le (xs : List (List Int)) (k : Nat) : catLen xs k ≤ xs.flatten.length := by
  unfold catLen catRow
  conv => rhs; rw [← List.take_append_drop k xs, List.flatten_append]
  simp
theorem cat_step (xs : List (List Int)) (k : Nat) (h : k < xs.length) {y : List Int} (hy : y = xs.getD k []) : catLen xs (k + 1) = catLen xs k + y.length := by
  unfold catLen; rw [cat_succ xs k h, List.length_append, hy]
set_option maxHeartbeats 1000000 in
theorem slices_Concat_byte_byte.calls (A0 : Option Addr) (c0 : Nat) (l0 : List (List Int)) (r : List Int) (w : World) (hr0 : Kd.C (Kd.slice 5 (Kd.int .u8)) w A0 l0.length l0) (hc0 : l0.length ≤ c0) (h : slices_Concat_byte_byte.f l0 = some r) :
    Calls Tryd.prog 42 #[.slice A0 l0.length c0] w fun e w' => ∃ v0_ : Value, e = .returned v0_ ∧ Kd.R (Kd.int .u8) 5 w' w.heap.size (fun _ => True) v0_ r ∧ Below w.heap.size w w' := by
  unfold slices_Concat_byte_byte.f at h
  split at h
  case isFalse => cases h
  rename_i hb
  obtain ⟨t, ht⟩ : ∃ t, t = l0.flatten.length := ⟨_, rfl⟩
  rw [← ht] at hb
  have HT := Lib.hid ht
  cases h
  have hmax : l0.length ≤ 9223372036854775807 := hr0.2.1
  have HR := Lib.hid hr0
  clear hr0 hc0 ht
  go_enter Tryd.func42, Tryd.ntmps42
  go_wp2
  go_loop [3, 11] (fun s i => ∃ k : Nat, k ≤ l0.length ∧ i = .int .i64 k ∧ s = .int .i64 (catLen l0 k)) (fun _ i => l0.length - (intOf i).toNat)
  case atStart => exact ⟨0, Nat.zero_le _, rfl, by simp [catLen, catRow]⟩
  case round =>
    obtain ⟨k, hk, rfl, rfl⟩ := hrel
    have hfl := cat_le l0 k
    rw [← HT.out] at hfl
    by_cases hlt : k < l0.length
    · obtain ⟨ad, A1, c1, y, hy, rfl, hcell, _, _⟩ := at_cat HR.out k hlt
      have hft := Lib.hid (cat_step l0 k hlt hy.out)
      have hfl2 := cat_le l0 (k + 1)
      rw [hft.out, ← HT.out] at hfl2
      go_wp2
      go_round
      case rel => exact ⟨k + 1, by omega, by go_num, by rw [hft.out]; go_num⟩
      case measure => simp [intOf]; omega
    · obtain rfl : k = l0.length := by omega
      go_wp2_with (go_at_call 80; refine (grow_nil _ (by omega) _).mono ?_; rintro e w1 ⟨v, rfl, hR, hB⟩)
      go_loopw [6, 27] (fun v i wr => ∃ k : Nat, k ≤ l0.length ∧ i = .int .i64 k ∧ Kd.R (Kd.int .u8) 5 wr w.heap.size (fun _ => True) v (catRow l0 k) ∧ Below w.heap.size w wr) (fun _ i _ => l0.length - (intOf i).toNat)
      case atStart => exact ⟨0, Nat.zero_le _, rfl, by simpa [catRow] using hR, hB⟩
      case round =>
        obtain ⟨k, hk, rfl, hRk, hBk⟩ := hrel
        have HRk := Lib.hid hRk
        have HBk := Lib.hid hBk
        clear hR hB
        by_cases hlt : k < l0.length
        · obtain ⟨ad, A1, c1, y, hy, rfl, hcell, hyc, hyC⟩ := at_cat (Kd.C_below HR.out HBk.out) k hlt
          have hfl2 := cat_le l0 (k + 1)
          rw [cat_step l0 k hlt hy.out, ← HT.out] at hfl2
          have hfl3 : (catRow l0 k).length + y.length ≤ t := hfl2
          clear hRk hBk hfl2
          go_wp2_with (at_builtin; refine Kd.R_append_row (Value.int .u8) (0 : Int) (w0 := w) w.heap.size rfl _ _ 23 5 (.int .u8 0) 1 rfl Tryd.underlying23 infoCat rfl (by decide) _ (catRow l0 k) y A1 y.length c1 (fun _ => True) rfl rfl (fun _ _ => trivial) HRk.out hyC.out HBk.out HBk.out.size (by omega) ?_; intro v1 w2 hR1 hB1 _ _)
          go_roundw
          case rel => exact ⟨k + 1, by omega, by go_num, by rw [cat_succ l0 k hlt, ← hy.out]; exact hR1, hB1⟩
          case measure => simp [intOf]; omega
        · obtain rfl : k = l0.length := by omega
          have hfull := Lib.hid (show catRow l0 l0.length = l0.flatten by simp [catRow])
          go_wp2
          go_ret
          exact ⟨_, rfl, by rw [← hfull.out]; exact HRk.out, HBk.out⟩
end Go.Proofs.YthkpocgbinmeiaaDoor.P

/- slices.Clone of rows of whole numbers, given. -/
import Derived.Test.YtimbamimabdmcaaP0
import Derived.Test.YtimbamimabdmcaaProg
import Derived.LoopTactic
import Derived.WalkKit
import Derived.OwnWalk
import Derived.Outline
import Derived.Lib.Hide
import Derived.RegionTactic
import Derived.Deep.QuietTactic
import Derived.BigQuiet
import Derived.Lib.SliceRun
import Derived.WalkSpells
namespace Go.Proofs.Ytimbamimabdmcaa.P
set_option linter.unusedVariables false
set_option linter.unusedSimpArgs false
open Go Go.RowKit Go.Proofs.YtimbamimabdmcaaW.PrintWords Go.Proofs.YtimbamimabdmcaaW.PrintLast Go.Proofs.YtimbamimabdmcaaW.PrintMore

theorem clone_none {k : IntKind} {w : World} {l : List Int} (h : Kd.C (Kd.int k) w none l.length l) : l = [] := by
  rcases Nat.eq_zero_or_pos l.length with h0 | h0
  · exact List.eq_nil_of_length_eq_zero h0
  · obtain ⟨ad, e, _⟩ := h.2.2 h0
    cases e
theorem clone_fresh (k : IntKind) (w : World) (t : TypeId) (hs : (Kd.int k).sz = 1) : Kd.R (Kd.int k) t (w.alloc (.cells #[] t)) w.heap.size (fun _ => True) (.slice (some ⟨w.heap.size, 0, none⟩) 0 0) [] := by
  refine ⟨fun _ _ => trivial, [], ⟨rfl, .inr ⟨w.heap.size, 0, #[], rfl, Nat.le_refl _, heap_alloc_new w _, Nat.le_refl _, by simp [maxLen], rfl, rfl⟩⟩, Reps.none _ _⟩

theorem infoClone_i : (Try.prog.info? 3).map (fun i => (i.zero, i.size, i.bytes)) = some (some (.int .i64 0), 1, 8) := by kernel_rfl
def slices_Clone_int_int.f (l0 : List Int) : Option (List Int) := if l0.length * 8 ≤ 140737488355328 then some l0 else none
theorem slices_Clone_int_int.calls (A0 : Option Addr) (c0 : Nat) (l0 : List Int) (r : List Int) (w : World) (hr0 : Kd.C (Kd.int .i64) w A0 l0.length l0) (hc0 : l0.length ≤ c0) (h : slices_Clone_int_int.f l0 = some r) :
    Calls Try.prog 29 #[.slice A0 l0.length c0] w fun e w' => ∃ v0_ : Value, e = .returned v0_ ∧ Kd.R (Kd.int .i64) 3 w' w.heap.size (fun _ => True) v0_ r ∧ Below w.heap.size w w' := by
  unfold slices_Clone_int_int.f at h
  split at h
  case isFalse => cases h
  rename_i hb
  cases h
  have HR := Lib.hid hr0
  cases A0 with
  | none =>
    have h0 : l0 = [] := clone_none hr0
    subst h0
    clear hr0 hb
    have heq := Lib.run_eql_slice_nil (P := Try.prog) w 23 3 none 0 c0 0 0 Try.underlying23
    dsimp only [Option.isNone] at heq
    go_enter Try.func29, Try.ntmps29
    go_wp2
    go_ret
    exact ⟨_, rfl, Kd.R_nil _ _ _ _ _, Below.refl _ _⟩
  | some ad =>
    clear hr0
    have hbl := (Below.refl _ w).alloc (Nat.le_refl _) (.cells #[] 3)
    have hown : Kd.R (Kd.int .i64) 3 (w.alloc (.cells #[] 3)) w.heap.size (fun _ => True) (.slice (some ⟨w.heap.size, 0, none⟩) 0 0) [] := clone_fresh _ _ _ rfl
    obtain ⟨w1, hw1⟩ : ∃ w1, w1 = w.alloc (.cells #[] 3) := ⟨_, rfl⟩
    rw [← hw1] at hbl hown
    have HO := Lib.hid hown
    have HB := Lib.hid hbl
    have hz : w.heap.size ≤ w1.heap.size := hbl.size
    clear hown hbl
    have heq := Lib.run_eql_slice_nil (P := Try.prog) w 23 3 (some ad) l0.length c0 0 0 Try.underlying23
    dsimp only [Option.isNone] at heq
    go_enter Try.func29, Try.ntmps29
    go_wp2_with (at_builtin; rw [← hw1]; refine Kd.R_append_row (Value.int .i64) (0 : Int) (w0 := w) w.heap.size rfl _ _ 23 3 (.int .i64 0) 8 rfl Try.underlying23 infoClone_i rfl (by decide) _ [] l0 (some ad) l0.length c0 (fun _ => True) rfl rfl (fun _ _ => trivial) HO.out (Kd.C_below HR.out HB.out) HB.out hz (by simpa using hb) ?_; intro v1 w2 hR1 hB1 _ _)
    go_ret
    exact ⟨_, rfl, hR1, hB1⟩

theorem infoClone_u : (Try.prog.info? 35).map (fun i => (i.zero, i.size, i.bytes)) = some (some (.int .u32 0), 1, 4) := by kernel_rfl
def slices_Clone_uint32_uint32.f (l0 : List Int) : Option (List Int) := if l0.length * 4 ≤ 140737488355328 then some l0 else none
theorem slices_Clone_uint32_uint32.calls (A0 : Option Addr) (c0 : Nat) (l0 : List Int) (r : List Int) (w : World) (hr0 : Kd.C (Kd.int .u32) w A0 l0.length l0) (hc0 : l0.length ≤ c0) (h : slices_Clone_uint32_uint32.f l0 = some r) :
    Calls Try.prog 15 #[.slice A0 l0.length c0] w fun e w' => ∃ v0_ : Value, e = .returned v0_ ∧ Kd.R (Kd.int .u32) 35 w' w.heap.size (fun _ => True) v0_ r ∧ Below w.heap.size w w' := by
  unfold slices_Clone_uint32_uint32.f at h
  split at h
  case isFalse => cases h
  rename_i hb
  cases h
  have HR := Lib.hid hr0
  cases A0 with
  | none =>
    have h0 : l0 = [] := clone_none hr0
    subst h0
    clear hr0 hb
    have heq := Lib.run_eql_slice_nil (P := Try.prog) w 22 35 none 0 c0 0 0 Try.underlying22
    dsimp only [Option.isNone] at heq
    go_enter Try.func15, Try.ntmps15
    go_wp2
    go_ret
    exact ⟨_, rfl, Kd.R_nil _ _ _ _ _, Below.refl _ _⟩
  | some ad =>
    clear hr0
    have hbl := (Below.refl _ w).alloc (Nat.le_refl _) (.cells #[] 35)
    have hown : Kd.R (Kd.int .u32) 35 (w.alloc (.cells #[] 35)) w.heap.size (fun _ => True) (.slice (some ⟨w.heap.size, 0, none⟩) 0 0) [] := clone_fresh _ _ _ rfl
    obtain ⟨w1, hw1⟩ : ∃ w1, w1 = w.alloc (.cells #[] 35) := ⟨_, rfl⟩
    rw [← hw1] at hbl hown
    have HO := Lib.hid hown
    have HB := Lib.hid hbl
    have hz : w.heap.size ≤ w1.heap.size := hbl.size
    clear hown hbl
    have heq := Lib.run_eql_slice_nil (P := Try.prog) w 22 35 (some ad) l0.length c0 0 0 Try.underlying22
    dsimp only [Option.isNone] at heq
    go_enter Try.func15, Try.ntmps15
    go_wp2_with (at_builtin; rw [← hw1]; refine Kd.R_append_row (Value.int .u32) (0 : Int) (w0 := w) w.heap.size rfl _ _ 22 35 (.int .u32 0) 4 rfl Try.underlying22 infoClone_u rfl (by decide) _ [] l0 (some ad) l0.length c0 (fun _ => True) rfl rfl (fun _ _ => trivial) HO.out (Kd.C_below HR.out HB.out) HB.out hz (by simpa using hb) ?_; intro v1 w2 hR1 hB1 _ _)
    go_ret
    exact ⟨_, rfl, hR1, hB1⟩
end Go.Proofs.Ytimbamimabdmcaa.P

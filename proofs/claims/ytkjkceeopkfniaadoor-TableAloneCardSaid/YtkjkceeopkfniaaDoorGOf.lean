/- prefix.Of, given: a transaction's events; slices.Clone, IndexFunc, DeleteFunc at events. -/
import Derived.Test.YtkjkceeopkfniaaDoorGRight
import Derived.RangeFuncBox
import Derived.Lib.SliceRun
import Derived.WalkSpells
namespace Go.Proofs.YtkjkceeopkfniaaDoor.P
set_option linter.unusedVariables false
set_option linter.unusedSimpArgs false
open Go Go.RowKit Go.Proofs.YtkjkceeopkfniaaDoorW.PrintWords Go.Proofs.YtkjkceeopkfniaaDoorW.PrintLast Go.Proofs.YtkjkceeopkfniaaDoorW.PrintMore Go.Proofs.YtkjkceeopkfniaaDoor.U

theorem infoE76 : (Tryd.prog.info? 36).map (fun i => (i.zero, i.size, i.bytes)) = some (some (.agg #[(.int .i64 0), (.int .i64 0), (.int .i64 0), (.int .i64 0)]), 4, 32) := by kernel_rfl
def agE (e : S36) : Value := .agg #[.int .i64 e.f0, .int .i64 e.f1, .int .i64 e.f2, .int .i64 e.f3]
/-- Whether an event is of a transaction. -/
theorem of1_any (ev : S36) (tx : Int) (bt : Nat) (W : World) (h : Boxed W bt 3 (.int .i64 tx)) : Calls Tryd.prog 111 #[.agg #[.int .i64 ev.f0, .int .i64 ev.f1, .int .i64 ev.f2, .int .i64 ev.f3], .pointer (some ⟨bt, 0, none⟩)] W fun x w' => x = .returned (.bool (ev.f1 == tx)) ∧ Below W.heap.size W w' := by
  have HC := Lib.hid h
  clear h
  go_enter Tryd.func111, Tryd.ntmps111
  go_wp2_with (first
    | ((with_reducible refine gate_dst (N := 2) rfl ?_); refine box_event ?hg (N := 2) ?hd (cs := #[.int .i64 ev.f0, .int .i64 ev.f1, .int .i64 ev.f2, .int .i64 ev.f3]) (t := 36) ?hr ?_; (case hd => rfl); (case hg => rfl); (case hr => first | (go_simp; done) | (go_simp; rfl)); intro g hg w1 hbox hb; have HB1 := Lib.hid hb; have z1 : w1.cell? ⟨g, 1, none⟩ = some (.int .i64 ev.f1) := (blk_cell hbox 1).trans rfl; have zt : w1.cell? ⟨bt, 0, none⟩ = some (.int .i64 tx) := pw_cell_below hb HC.out.cell; clear hbox hb hg))
  go_ret
  exact ⟨rfl, HB1.out⟩
/-- .. and whether it is none of those that are kept. -/
abbrev fOf (bt : Nat) : Value := .func (.func 111) #[] #[.pointer (some ⟨bt, 0, none⟩)]
abbrev fKept (bf : Nat) : Value := .func (.func 137) #[] #[.pointer (some ⟨bf, 0, none⟩)]
theorem kept_any (ev : S36) (tx : Int) (bf bt : Nat) (W : World) (hf : Boxed W bf 43 (fOf bt)) (h : Boxed W bt 3 (.int .i64 tx)) : Calls Tryd.prog 137 #[.agg #[.int .i64 ev.f0, .int .i64 ev.f1, .int .i64 ev.f2, .int .i64 ev.f3], .pointer (some ⟨bf, 0, none⟩)] W fun x w' => x = .returned (.bool (!(ev.f1 == tx))) ∧ Below W.heap.size W w' := by
  have HC := Lib.hid h
  have HF := Lib.hid hf
  have hlt := h.lt
  have hltf := hf.lt
  obtain ⟨r, hr⟩ : ∃ r, r = (ev.f1 == tx) := ⟨_, rfl⟩
  have ho : ∀ w, Boxed w bt 3 (.int .i64 tx) → Calls Tryd.prog 111 #[.agg #[.int .i64 ev.f0, .int .i64 ev.f1, .int .i64 ev.f2, .int .i64 ev.f3], .pointer (some ⟨bt, 0, none⟩)] w fun x w' => x = .returned (.bool r) ∧ Below w.heap.size w w' := by
    intro w hw; rw [hr]; exact of1_any ev tx bt w hw
  rw [← hr]
  have HO := Lib.hid ho
  clear h hf hr ho
  go_enter Tryd.func137, Tryd.ntmps137
  go_wp2_with (first
    | ((with_reducible refine gate_dst (N := 2) rfl ?_); refine box_event ?hg (N := 2) ?hd (cs := #[.int .i64 ev.f0, .int .i64 ev.f1, .int .i64 ev.f2, .int .i64 ev.f3]) (t := 36) ?hr ?_; (case hd => rfl); (case hg => rfl); (case hr => first | (go_simp; done) | (go_simp; rfl)); intro g hg w1 hbox hb; have HB1 := Lib.hid hb; have z0 : w1.cell? ⟨g, 0, none⟩ = some (.int .i64 ev.f0) := (blk_cell hbox 0).trans rfl; have z1 : w1.cell? ⟨g, 1, none⟩ = some (.int .i64 ev.f1) := (blk_cell hbox 1).trans rfl; have z2 : w1.cell? ⟨g, 2, none⟩ = some (.int .i64 ev.f2) := (blk_cell hbox 2).trans rfl; have z3 : w1.cell? ⟨g, 3, none⟩ = some (.int .i64 ev.f3) := (blk_cell hbox 3).trans rfl; have zf : w1.cell? ⟨bf, 0, none⟩ = some (.func (.func 111) #[] #[.pointer (some ⟨bt, 0, none⟩)]) := pw_cell_below hb HF.out.cell; have HC1 := Lib.hid (show Boxed w1 bt 3 (.int .i64 tx) from blk_below HC.out hb); clear hbox hb hg)
    | (go_at_call 111; refine (HO.out _ HC1.out).mono ?_; rintro x w2 ⟨rfl, hb2⟩; have HB2 := Lib.hid (HB1.out.trans (hb2.mono HB1.out.size)); clear hb2))
  go_ret
  exact ⟨rfl, HB2.out⟩
theorem clone_noneE {w : World} {l : List S36} (h : Kd.C k36 w none l.length l) : l = [] := by
  rcases Nat.eq_zero_or_pos l.length with h0 | h0
  · exact List.eq_nil_of_length_eq_zero h0
  · obtain ⟨ad, e, _⟩ := h.2.2 h0
    cases e
/-- slices.Clone at events. -/
theorem cloneE (A0 : Option Addr) (c0 : Nat) (l0 : List S36) (w : World) (hr0 : Kd.C k36 w A0 l0.length l0) (hb : l0.length * 32 ≤ 140737488355328) :
    Calls Tryd.prog 26 #[.slice A0 l0.length c0] w fun e w' => ∃ v0_ : Value, e = .returned v0_ ∧ Kd.R k36 36 w' w.heap.size (fun _ => True) v0_ l0 ∧ Below w.heap.size w w' := by
  have HR := Lib.hid hr0
  cases A0 with
  | none =>
    have h0 : l0 = [] := clone_noneE hr0
    subst h0
    clear hr0 hb
    have heq := Lib.run_eql_slice_nil (P := Tryd.prog) w 22 36 none 0 c0 0 0 Tryd.underlying22
    dsimp only [Option.isNone] at heq
    go_enter Tryd.func26, Tryd.ntmps26
    go_wp2
    go_ret
    exact ⟨_, rfl, Kd.R_nil _ _ _ _ _, Below.refl _ _⟩
  | some ad =>
    clear hr0
    have hbl := (Below.refl _ w).alloc (Nat.le_refl _) (.cells #[] 36)
    have hown : Kd.R k36 36 (w.alloc (.cells #[] 36)) w.heap.size (fun _ => True) (.slice (some ⟨w.heap.size, 0, none⟩) 0 0) [] := ⟨fun _ _ => trivial, [], ⟨rfl, .inr ⟨w.heap.size, 0, #[], rfl, Nat.le_refl _, heap_alloc_new w _, Nat.le_refl _, by simp [maxLen], rfl, rfl⟩⟩, Reps.none _ _⟩
    obtain ⟨w1, hw1⟩ : ∃ w1, w1 = w.alloc (.cells #[] 36) := ⟨_, rfl⟩
    rw [← hw1] at hbl hown
    have HO := Lib.hid hown
    have HB := Lib.hid hbl
    have hz : w.heap.size ≤ w1.heap.size := hbl.size
    clear hown hbl
    have heq := Lib.run_eql_slice_nil (P := Tryd.prog) w 22 36 (some ad) l0.length c0 0 0 Tryd.underlying22
    dsimp only [Option.isNone] at heq
    go_enter Tryd.func26, Tryd.ntmps26
    go_wp2_with (at_builtin; rw [← hw1]; refine Kd.R_append_rows k36 (Rr := k36.K w1) (w0 := w) w.heap.size rfl _ _ 22 36 (.agg #[(.int .i64 0), (.int .i64 0), (.int .i64 0), (.int .i64 0)]) 32 rfl Tryd.underlying22 infoE76 rfl (by decide) (by decide) _ [] l0 (some ad) l0.length c0 (fun _ => True) (fun _ => False) rfl rfl HO.out (Kd.C_below HR.out HB.out) (fun x cs hx => by obtain rfl := k36_open hx; exact k36_mkM _ _ _ x) (fun _ h => h.elim) (fun _ _ => trivial) HB.out hz (by simpa using hb) ?_; intro v1 w2 hR1 hB1 _ _)
    go_ret
    exact ⟨_, rfl, hR1, hB1⟩
set_option maxHeartbeats 1000000 in
theorem index_kept (A : Option Addr) (c : Nat) (l : List S36) (tx : Int) (bf bt : Nat) (W : World) (hr : Kd.C k36 W A l.length l) (hf : Boxed W bf 43 (fOf bt)) (ht : Boxed W bt 3 (.int .i64 tx)) :
    Calls Tryd.prog 81 #[.slice A l.length c, fKept bf] W fun e w' => e = .returned (.int .i64 (idxE (fun x => !(x.f1 == tx)) l 0)) ∧ Below W.heap.size W w' := by
  have HE := Lib.hid hr
  have HF := Lib.hid hf
  have HT := Lib.hid ht
  have hmax : l.length ≤ 9223372036854775807 := hr.2.1
  obtain ⟨g, hg⟩ : ∃ g : S36 → Bool, g = fun x => !(x.f1 == tx) := ⟨_, rfl⟩
  rw [← hg]
  have hc : ∀ (ev : S36) w, Below W.heap.size W w → Calls Tryd.prog 137 #[.agg #[.int .i64 ev.f0, .int .i64 ev.f1, .int .i64 ev.f2, .int .i64 ev.f3], .pointer (some ⟨bf, 0, none⟩)] w fun x w' => x = .returned (.bool (g ev)) ∧ Below w.heap.size w w' := by
    intro ev w hw; rw [hg]; exact kept_any ev tx bf bt w (blk_below HF.out hw) (blk_below HT.out hw)
  have HC := Lib.hid hc
  clear hr hg hf ht hc
  go_enter Tryd.func81, Tryd.ntmps81
  go_wp2
  go_loopw [8] (fun v8 wr => ∃ k : Nat, k ≤ l.length ∧ v8 = .int .i64 (k : Int) ∧ Hid (idxE g l 0 = idxE g (l.drop k) k) ∧ Hid (Below W.heap.size W wr)) (fun v8 _ => l.length - (intOf v8).toNat)
  case atStart => exact ⟨0, Nat.zero_le _, rfl, Lib.hid rfl, Lib.hid (Below.refl _ _)⟩
  case round =>
    obtain ⟨k, hk, rfl, hI, HB⟩ := hrel
    by_cases hlt : k < l.length
    · obtain ⟨adE, rfl, hx0, hx1, hx2, hx3⟩ := at_T36 (Kd.C_below HE.out HB.out) (k : Int) (by omega) (by omega)
      have hd := Lib.hid (idxE_drop g l k hlt)
      obtain ⟨ev, hev⟩ : ∃ ev, ev = rd_T36 l (k : Int) := ⟨_, rfl⟩
      rw [← hev] at hx0 hx1 hx2 hx3 hd
      rw [Int.toNat_natCast] at hx0 hx1 hx2 hx3
      clear hev
      have ho := HC.out ev wr HB.out
      cases hgx : g ev with
      | true =>
        rw [hgx] at ho
        have e1 := hd.out
        rw [hgx, if_pos rfl] at e1
        have e2 := Lib.hid (hI.out.trans e1)
        have HO := Lib.hid ho
        clear ho hgx hd hI e1
        go_wp2_with (go_at_call 137; refine HO.out.mono ?_; rintro e w' ⟨rfl, hb2⟩; have HB2 := Lib.hid (HB.out.trans (hb2.mono HB.out.size)); clear hb2)
        go_ret
        exact ⟨by rw [e2.out]; rfl, HB2.out⟩
      | false =>
        rw [hgx] at ho
        have e1 := hd.out
        rw [hgx, if_neg (by simp)] at e1
        have e2 := Lib.hid (hI.out.trans e1)
        have HO := Lib.hid ho
        clear ho hgx hd hI e1
        go_wp2_with (go_at_call 137; refine HO.out.mono ?_; rintro e w' ⟨rfl, hb2⟩; have HB2 := Lib.hid (HB.out.trans (hb2.mono HB.out.size)); clear hb2)
        go_roundw
        case rel => exact ⟨k + 1, by omega, by go_num, e2, HB2⟩
        case measure => simp [intOf]; omega
    · obtain rfl : k = l.length := by omega
      have e1 := hI.out
      rw [List.drop_length] at e1
      have e2 := Lib.hid e1
      clear hI e1
      go_wp2
      go_ret
      exact ⟨by rw [e2.out]; rfl, HB.out⟩
end Go.Proofs.YtkjkceeopkfniaaDoor.P

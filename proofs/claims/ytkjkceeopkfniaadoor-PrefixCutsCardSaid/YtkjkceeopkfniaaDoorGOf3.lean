/- prefix.Of, given: a transaction's events, in a row of its own. -/
import Derived.Test.YtkjkceeopkfniaaDoorGOf2
namespace Go.Proofs.YtkjkceeopkfniaaDoor.P
set_option linter.unusedVariables false
set_option linter.unusedSimpArgs false
open Go Go.RowKit Go.Proofs.YtkjkceeopkfniaaDoorW.PrintWords Go.Proofs.YtkjkceeopkfniaaDoorW.PrintLast Go.Proofs.YtkjkceeopkfniaaDoorW.PrintMore Go.Proofs.YtkjkceeopkfniaaDoor.U

theorem kept_run (A0 : Option Addr) (c0 : Nat) (l0 : List S36) (tx : Int) (bt : Nat) (W : World) (hr0 : Kd.C k36 W A0 l0.length l0) (hb : l0.length * 32 ≤ 140737488355328) (ht : Boxed W bt 3 (.int .i64 tx)) :
    Calls Tryd.prog 110 #[.slice A0 l0.length c0, fOf bt] W fun e w' => ∃ v', e = .returned v' ∧ Kd.R k36 36 w' W.heap.size (fun _ => True) v' (l0.filter (keepE tx)) ∧ Below W.heap.size W w' := by
  have HR := Lib.hid hr0
  have HT := Lib.hid ht
  have HB := Lib.hid hb
  clear hr0 ht hb
  go_enter Tryd.func110, Tryd.ntmps110
  go_wp2_with (first
    | ((with_reducible refine gate_dst (N := 3) rfl ?_); refine box_event ?hg (N := 3) ?hd (cs := #[fOf bt]) (t := 43) ?hr ?_; (case hd => rfl); (case hg => rfl); (case hr => first | (go_simp; done) | (go_simp; rfl)); intro g hg w1 hbox hb; have HF1 := Lib.hid (show Boxed w1 g 43 (fOf bt) from hbox); have HB1 := Lib.hid hb; have HT1 := Lib.hid (show Boxed w1 bt 3 (.int .i64 tx) from blk_below HT.out hb); clear hbox hb hg)
    | (go_at_call 26; refine (cloneE A0 c0 l0 _ (Kd.C_below HR.out HB1.out) HB.out).mono ?_; rintro x w2 ⟨v2, rfl, hr2, hb2⟩; have HR2 := Lib.hid hr2; have HB2 := Lib.hid hb2; clear hr2 hb2)
    | (go_at_call 25; refine (delete_run _ l0 tx _ bt W.heap.size _ (Kd.R_lower HR2.out HB1.out.size) (blk_below HF1.out HB2.out) (blk_below HT1.out HB2.out) (Nat.le_trans HB1.out.size HB2.out.size)).mono ?_; rintro x w3 ⟨v3, rfl, hr3, hb3⟩; have HR3 := Lib.hid hr3; have HB3 := Lib.hid ((HB1.out.trans (HB2.out.mono HB1.out.size)).trans hb3); clear hr3 hb3))
  go_ret
  exact ⟨_, rfl, HR3.out, HB3.out⟩
def prefix_Of.f (l0 : List S36) (a1 : Int) : Option (List S36) := if l0.length * 32 ≤ 140737488355328 then some (l0.filter (keepE a1)) else none
theorem prefix_Of.calls (A0 : Option Addr) (c0 : Nat) (l0 : List S36) (a1 : Int) (r : List S36) (W : World) (hr0 : Kd.C k36 W A0 l0.length l0) (hc0 : l0.length ≤ c0) (h : prefix_Of.f l0 a1 = some r) :
    Calls Tryd.prog 58 #[.slice A0 l0.length c0, .int .i64 a1] W fun e w' => ∃ v', e = .returned v' ∧ Kd.R k36 36 w' W.heap.size (fun _ => True) v' r ∧ Below W.heap.size W w' := by
  unfold prefix_Of.f at h
  split at h
  case isFalse => cases h
  rename_i hb
  cases h
  have HR := Lib.hid hr0
  have HB := Lib.hid hb
  clear hr0 hb
  go_enter Tryd.func58, Tryd.ntmps58
  go_wp2_with (first
    | ((with_reducible refine gate_dst (N := 3) rfl ?_); refine box_event ?hg (N := 3) ?hd (cs := #[.int .i64 a1]) (t := 3) ?hr ?_; (case hd => rfl); (case hg => rfl); (case hr => first | (go_simp; done) | (go_simp; rfl)); intro g hg w1 hbox hb; have HT1 := Lib.hid (show Boxed w1 g 3 (.int .i64 a1) from hbox); have HB1 := Lib.hid hb; clear hbox hb hg)
    | (go_at_call 110; refine (kept_run A0 c0 l0 a1 _ _ (Kd.C_below HR.out HB1.out) HB.out HT1.out).mono ?_; rintro x w2 ⟨v2, rfl, hr2, hb2⟩; have HR2 := Lib.hid (Kd.R_lower hr2 HB1.out.size); have HB2 := Lib.hid (HB1.out.trans (hb2.mono HB1.out.size)); clear hr2 hb2))
  go_ret
  exact ⟨_, rfl, HR2.out, HB2.out⟩
end Go.Proofs.YtkjkceeopkfniaaDoor.P

/- Proved: which read of any transaction is the first that is not of what it may, of any memory, is as the document says, or refused. Condition: the program's table of kinds lies in memory as its text lays it (the card ties that to the text). -/
import Derived.Test.YtkjkceeopkfniaaDoorGEvs
import Derived.Test.YtkjkceeopkfniaaDoorGTxns
import Derived.Test.YtkjkceeopkfniaaDoorGInts
import Derived.Test.YtkjkceeopkfniaaDoorPureLegalOwn
import Derived.Test.YtkjkceeopkfniaaDoorP5
import Derived.Test.YtkjkceeopkfniaaDoorRows
import Derived.Test.YtkjkceeopkfniaaDoorTie
import Derived.Test.YtkjkceeopkfniaaDoorCards
import Derived.SevenTiedAt
import Derived.LaidMore
import Derived.Lay
import Derived.Stop.Joined
import Derived.WalkKit
import Derived.ProofKit
import Derived.OpenShut
import Derived.ShutString
import Derived.ChangeOld
import Derived.Below
import Derived.SizedLaws
namespace Go.Proofs.YtkjkceeopkfniaaDoor.legalOwn
open Go.ChangeShapes Go.WideShapes Go.ChangeAt Go.RowKit
open Go.ChangeMaps (open_string shut_string)
set_option linter.unusedVariables false
theorem own : ownKnob Tryd.prog.godebug = none := by kernel_rfl
theorem laidOut : laidOutB Tryd.prog = true := by kernel_rfl
def laidL : List (String × DataW Unit) := [("recant/text.kinds", Rows.laid_recant_text_kinds)]
theorem tab_of {W : World} (h : laidMetH Tryd.prog laidL W) : P.KTab W := by
  rw [MakeChecks.laidMetH_plain _ _ _ (by kernel_rfl)] at h
  exact P.ktab_of h
set_option maxRecDepth 100000 in
theorem lifted (os : Os) (started : os.Started) (H : Type) (enc : TypeId × Value → H) :
    ReturnsInHanded {} Tryd.checked os 8 .any (fun w args => (Rows.legalOwnSpec.pre enc Tryd.prog Tryd.f8 [] false w args ∧ laidMetH Tryd.prog laidL w) ∧ sizedMet enc Tryd.prog Tryd.f8 (OpenSpec.ofChange Rows.legalOwnSpec) false w args) (Rows.legalOwnSpec.post enc Tryd.prog Tryd.f8 false true false false) := by
  refine returnsInHanded_of_change_and (C := Tryd.checked) (X := fun w _ => laidMetH Tryd.prog laidL w) (fun _ _ _ hh h => h.of_heap hh) own started (by kernel_rfl) Tryd.func8
    (ChangeSpec.witness_shaped (enc := enc) (C := Tryd.checked) (os := os) (X := fun w _ => laidMetH Tryd.prog laidL w) false (World.laidAll Tryd.prog os laidL) #[.agg #[.int .i64 0, .int .i64 0, .int .i64 0, .int .i64 0, .slice none 0 0], .slice none 0 0] 8 (World.laidAll_os _ _ _)
      (World.shaped_of_ZipB (by kernel_rfl) (by kernel_rfl)) (by kernel_rfl) (by kernel_rfl) (by kernel_rfl)
      (by rw [MakeChecks.laidMetH_plain _ _ _ (by kernel_rfl)]; exact laidMet_laidAll _ (by kernel_rfl) (by kernel_rfl))) ?_
  intro W base args ds gs before hval0 hW hcnd hsz0 hL _
  have hT : P.KTab W := tab_of hL
  have hval : ∀ (j : Nat) t v, Tryd.f8.params[j]? = some t → args[j]? = some v → Value.okWide Tryd.prog W .any base t v := hval0
  have hW' := hW
  obtain ⟨p, q, hA0, hV, rfl, hfz, hnd⟩ := hW
  have hA : DataW.TrodAll enc Tryd.prog W 0 (fun _ => true) true Tryd.f8.params.toList args.toList ds p := hA0
  rw [Tryd.params8] at hA hval
  obtain ⟨v0, vs0, d0, ds0, p0, q0, hargs, rfl, rfl, h0, r0⟩ := trodAll_cons hA
  obtain ⟨v1, vs1, d1, ds1, p1, q1, rfl, rfl, rfl, h1, r1⟩ := trodAll_cons r0
  obtain ⟨rfl, rfl, rfl⟩ := trodAll_nil r1
  obtain rfl : args = #[v0, v1] := by cases args; simp_all
  obtain ⟨rfl, rfl⟩ := trodVars_none hV
  obtain ⟨cs0, rfl, _⟩ := okWide_struct Tryd.underlying34 (hval 0 34 v0 rfl rfl)
  have k0 := h0
  have lt0 : ∀ x ∈ p0, x.block < W.heap.size := by obtain ⟨m, hm⟩ := k0; exact DataW.trod_lt m _ _ _ hm
  obtain ⟨t0, T0, u0, e0, hc0, hC0⟩ : ∃ (t : P.S34) (A : Option Addr) (cap : Nat), cs0 = #[.int .i64 t.f0, .int .i64 t.f1, .int .i64 t.f2, .int .i64 t.f3, .slice A t.f4.length cap] ∧ t.f4.length ≤ cap ∧ Go.Proofs.YtkjkceeopkfniaaDoorW.PrintWords.Kd.C P.k52 W A t.f4.length t.f4 := by
    obtain ⟨fuel, hf⟩ := h0
    obtain ⟨t, A, cap, e, hc, hC⟩ := P.txn_of (by simpa [Value.cells] using hf)
    exact ⟨t, A, cap, by have := congrArg List.toArray e; simpa using this, hc, hC⟩
  subst e0
  obtain ⟨a1, len1, cap1, rfl⟩ := okWide_slice Tryd.underlying49 (hval 1 49 v1 rfl rfl)
  have k1 := h1
  have lt1 : ∀ x ∈ p1, x.block < W.heap.size := by obtain ⟨m, hm⟩ := k1; exact DataW.trod_lt m _ _ _ hm
  obtain ⟨l1, hl1, hc1, hC1, hx1⟩ : ∃ l : List Int, l.length = len1 ∧ len1 ≤ cap1 ∧ Go.Proofs.YtkjkceeopkfniaaDoorW.PrintWords.Kd.C (Go.Proofs.YtkjkceeopkfniaaDoorW.PrintWords.Kd.int .i64) W a1 len1 l ∧ l.length ≤ 9223372036854775807 := by
    obtain ⟨fuel, hf⟩ := h1
    have hmax : len1 ≤ 9223372036854775807 := by
      rcases Go.Deep.open_slice Tryd.underlying49 hf with ⟨hcs, _⟩ | ⟨x, l, c, m, n, D, Pl, hcs, _, hl, hm, _⟩
      · simp [Value.cells] at hcs; omega
      · simp [Value.cells] at hcs
        unfold maxLen at hm
        omega
    obtain ⟨l, e1, e2, e3⟩ := P.ints_of hmax (by simpa [Value.cells] using hf)
    exact ⟨l, e1, e2, e3, by omega⟩
  clear hA0 hval0 hsz0
  subst hl1
  obtain ⟨k, h⟩ := Pure.LegalOwn t0.f0 t0.f1 t0.f2 t0.f3 t0.f4 l1 hx1
  refine (P.recantlaw10_LegalOwn.calls k t0.f0 t0.f1 t0.f2 t0.f3 _ _ t0.f4 _ _ l1 true W hC0 hc0 hC1 hc1 h hT).mono fun e W' ⟨he, bel⟩ => ?_
  subst he
  exact ⟨_, rfl, _, _, _, [], _, [], hW', trodAll_mk1 (shut_bool Tryd.underlying4 _), (trodAll_cons_mk (Below.trod laidOut (by kernel_rfl) (of_decide_eq_true (by kernel_rfl)) k0 bel lt0) (trodAll_cons_mk (Below.trod laidOut (by kernel_rfl) (of_decide_eq_true (by kernel_rfl)) k1 bel lt1) trodAll_mk0)), rfl, bel.frame _, fun h => by cases h⟩
theorem over : Rows.legalOwnRow.holds Tryd.pinned (OpenSpec.ofChange Rows.legalOwnSpec) :=
  OpenClaim.holds_of_wide 8 Tryd.f8 rfl rfl rfl rfl rfl rfl rfl ⟨rfl, rfl, rfl, rfl, rfl⟩ rfl rfl rfl rfl rfl (by kernel_rfl) Tryd.func8 (by kernel_rfl)
    (of_decide_eq_true (by kernel_rfl)) (by unfold Func.isWrapper; first | (rw [if_pos (by decide +kernel)]; kernel_rfl) | (rw [if_neg (by decide +kernel)]; exact ⟨rfl, rfl⟩))
    (fun os started H enc _ => lifted os started H enc)
theorem card_holds : Rows.LegalOwnCardSaid :=
  Claim7.holds_tied_plain_at .later [] [.widerDeep] true (true, "240f496d2943213fe5a981944a66077259a857eb8a2388f942942cc3538f0e9e") false
    over (fun _ h => by cases h) (by kernel_rfl) (fun _ h => by cases h) legalOwn_row_tie rfl ⟨rfl, rfl⟩ (by kernel_rfl) rfl
    (fun f fn hf hfn => by
      obtain rfl : f = 8 := Option.some.inj ((show Tryd.prog.funcNamed "recant/recantlaw10.LegalOwn" = some 8 by kernel_rfl).symm.trans hf) |>.symm
      obtain rfl : fn = Tryd.f8 := (Option.some.inj (Tryd.func8.symm.trans hfn)).symm
      exact ⟨by kernel_rfl, fun j t ht => by
        rw [Tryd.params8] at ht
        have hm : t ∈ [34, 49] := by simpa using Array.mem_of_getElem? ht
        have hall : ([34, 49].all fun u => !Tryd.prog.wantsStandIn u) = true := by kernel_rfl
        exact (show Tryd.prog.wantsStandIn t = false by simpa using List.all_eq_true.1 hall t hm)⟩)
    (by kernel_rfl)
#print axioms card_holds
end Go.Proofs.YtkjkceeopkfniaaDoor.legalOwn
namespace Go.Proofs.YtkjkceeopkfniaaDoor
/-- The card, under a short name, for the claim. -/
theorem legalOwn_holds : Rows.LegalOwnCardSaid := legalOwn.card_holds
end Go.Proofs.YtkjkceeopkfniaaDoor

/- Proved: how many of any row of transactions read what they may, and the memory behind it, is as the document says, or refused. Condition: the program's table of kinds lies in memory as its text lays it (the card ties that to the text). -/
import Derived.Test.YtkjkceeopkfniaaDoorGEvs
import Derived.Test.YtkjkceeopkfniaaDoorGInts
import Derived.Test.YtkjkceeopkfniaaDoorPureLegalRows
import Derived.Test.YtkjkceeopkfniaaDoorP11
import Derived.Test.YtkjkceeopkfniaaDoorRows
import Derived.Test.YtkjkceeopkfniaaDoorTie
import Derived.Test.YtkjkceeopkfniaaDoorCards
import Derived.SevenTiedAt
import Derived.LaidMore
import Derived.Lay
import Derived.Stop.Joined
import Derived.WalkKit
import Derived.ProofKit
import Derived.OpenShut
import Derived.ShutString
import Derived.ChangeOld
import Derived.Below
import Derived.SizedLaws
namespace Go.Proofs.YtkjkceeopkfniaaDoor.legalRows
open Go.ChangeShapes Go.WideShapes Go.ChangeAt Go.RowKit
open Go.ChangeMaps (open_string shut_string)
set_option linter.unusedVariables false
theorem own : ownKnob Tryd.prog.godebug = none := by kernel_rfl
theorem laidOut : laidOutB Tryd.prog = true := by kernel_rfl
def laidL : List (String × DataW Unit) := [("recant/text.kinds", Rows.laid_recant_text_kinds)]
theorem tab_of {W : World} (h : laidMetH Tryd.prog laidL W) : P.KTab W := by
  rw [MakeChecks.laidMetH_plain _ _ _ (by kernel_rfl)] at h
  exact P.ktab_of h
set_option maxRecDepth 100000 in
theorem lifted (os : Os) (started : os.Started) (H : Type) (enc : TypeId × Value → H) :
    ReturnsInHanded {} Tryd.checked os 9 .any (fun w args => (Rows.legalRowsSpec.pre enc Tryd.prog Tryd.f9 [] false w args ∧ laidMetH Tryd.prog laidL w) ∧ sizedMet enc Tryd.prog Tryd.f9 (OpenSpec.ofChange Rows.legalRowsSpec) false w args) (Rows.legalRowsSpec.post enc Tryd.prog Tryd.f9 false true false false) := by
  refine returnsInHanded_of_change_and (C := Tryd.checked) (X := fun w _ => laidMetH Tryd.prog laidL w) (fun _ _ _ hh h => h.of_heap hh) own started (by kernel_rfl) Tryd.func9
    (ChangeSpec.witness_shaped (enc := enc) (C := Tryd.checked) (os := os) (X := fun w _ => laidMetH Tryd.prog laidL w) false (World.laidAll Tryd.prog os laidL) #[.slice none 0 0, .slice none 0 0, .int .u32 0] 8 (World.laidAll_os _ _ _)
      (World.shaped_of_ZipB (by kernel_rfl) (by kernel_rfl)) (by kernel_rfl) (by kernel_rfl) (by kernel_rfl)
      (by rw [MakeChecks.laidMetH_plain _ _ _ (by kernel_rfl)]; exact laidMet_laidAll _ (by kernel_rfl) (by kernel_rfl))) ?_
  intro W base args ds gs before hval0 hW hcnd hsz0 hL _
  have hT : P.KTab W := tab_of hL
  have hval : ∀ (j : Nat) t v, Tryd.f9.params[j]? = some t → args[j]? = some v → Value.okWide Tryd.prog W .any base t v := hval0
  have hW' := hW
  obtain ⟨p, q, hA0, hV, rfl, hfz, hnd⟩ := hW
  have hA : DataW.TrodAll enc Tryd.prog W 0 (fun _ => true) true Tryd.f9.params.toList args.toList ds p := hA0
  rw [Tryd.params9] at hA hval
  obtain ⟨v0, vs0, d0, ds0, p0, q0, hargs, rfl, rfl, h0, r0⟩ := trodAll_cons hA
  obtain ⟨v1, vs1, d1, ds1, p1, q1, rfl, rfl, rfl, h1, r1⟩ := trodAll_cons r0
  obtain ⟨v2, vs2, d2, ds2, p2, q2, rfl, rfl, rfl, h2, r2⟩ := trodAll_cons r1
  obtain ⟨rfl, rfl, rfl⟩ := trodAll_nil r2
  obtain rfl : args = #[v0, v1, v2] := by cases args; simp_all
  obtain ⟨rfl, rfl⟩ := trodVars_none hV
  obtain ⟨a0, len0, cap0, rfl⟩ := okWide_slice Tryd.underlying22 (hval 0 22 v0 rfl rfl)
  have k0 := h0
  have lt0 : ∀ x ∈ p0, x.block < W.heap.size := by obtain ⟨m, hm⟩ := k0; exact DataW.trod_lt m _ _ _ hm
  obtain ⟨a1, len1, cap1, rfl⟩ := okWide_slice Tryd.underlying49 (hval 1 49 v1 rfl rfl)
  have k1 := h1
  have lt1 : ∀ x ∈ p1, x.block < W.heap.size := by obtain ⟨m, hm⟩ := k1; exact DataW.trod_lt m _ _ _ hm
  obtain ⟨a2, rfl, rfl, rfl, w2⟩ := open_int Tryd.underlying58 (hval 2 58 v2 rfl rfl) h2
  obtain ⟨l0, hl0, hc0, hC0, hx0⟩ : ∃ l : List P.S36, l.length = len0 ∧ len0 ≤ cap0 ∧ Go.Proofs.YtkjkceeopkfniaaDoorW.PrintWords.Kd.C P.k36 W a0 len0 l ∧ l.length ≤ 9223372036854775807 := by
    obtain ⟨fuel, hf⟩ := h0
    have hmax : len0 ≤ 9223372036854775807 := by
      rcases Go.Deep.open_slice Tryd.underlying22 hf with ⟨hcs, _⟩ | ⟨x, l, c, m, n, D, Pl, hcs, _, hl, hm, _⟩
      · simp [Value.cells] at hcs; omega
      · simp [Value.cells] at hcs
        unfold maxLen at hm
        omega
    obtain ⟨l, e1, e2, e3, _⟩ := P.events_of hmax (by simpa [Value.cells] using hf)
    exact ⟨l, e1, e2, e3, by omega⟩
  obtain ⟨l1, hl1, hc1, hC1, hx1⟩ : ∃ l : List Int, l.length = len1 ∧ len1 ≤ cap1 ∧ Go.Proofs.YtkjkceeopkfniaaDoorW.PrintWords.Kd.C (Go.Proofs.YtkjkceeopkfniaaDoorW.PrintWords.Kd.int .i64) W a1 len1 l ∧ l.length ≤ 9223372036854775807 := by
    obtain ⟨fuel, hf⟩ := h1
    have hmax : len1 ≤ 9223372036854775807 := by
      rcases Go.Deep.open_slice Tryd.underlying49 hf with ⟨hcs, _⟩ | ⟨x, l, c, m, n, D, Pl, hcs, _, hl, hm, _⟩
      · simp [Value.cells] at hcs; omega
      · simp [Value.cells] at hcs
        unfold maxLen at hm
        omega
    obtain ⟨l, e1, e2, e3⟩ := P.ints_of hmax (by simpa [Value.cells] using hf)
    exact ⟨l, e1, e2, e3, by omega⟩
  clear hA0 hval0 hsz0
  subst hl0
  subst hl1
  obtain ⟨k, h⟩ := Pure.LegalRows l0 hx0 l1 hx1 a2 w2
  refine (P.recantlaw10_LegalRows.calls k _ _ l0 _ _ l1 a2 true W hC0 hc0 hC1 hc1 h hT).mono fun e W' ⟨he, bel⟩ => ?_
  subst he
  exact ⟨_, rfl, _, _, _, [], _, [], hW', trodAll_mk1 (shut_bool Tryd.underlying4 _), (trodAll_cons_mk (Below.trod laidOut (by kernel_rfl) (of_decide_eq_true (by kernel_rfl)) k0 bel lt0) (trodAll_cons_mk (Below.trod laidOut (by kernel_rfl) (of_decide_eq_true (by kernel_rfl)) k1 bel lt1) (trodAll_cons_mk (shut_int Tryd.underlying58 w2) trodAll_mk0))), rfl, bel.frame _, fun h => by cases h⟩
theorem over : Rows.legalRowsRow.holds Tryd.pinned (OpenSpec.ofChange Rows.legalRowsSpec) :=
  OpenClaim.holds_of_wide 9 Tryd.f9 rfl rfl rfl rfl rfl rfl rfl ⟨rfl, rfl, rfl, rfl, rfl⟩ rfl rfl rfl rfl rfl (by kernel_rfl) Tryd.func9 (by kernel_rfl)
    (of_decide_eq_true (by kernel_rfl)) (by unfold Func.isWrapper; first | (rw [if_pos (by decide +kernel)]; kernel_rfl) | (rw [if_neg (by decide +kernel)]; exact ⟨rfl, rfl⟩))
    (fun os started H enc _ => lifted os started H enc)
theorem card_holds : Rows.LegalRowsCardSaid :=
  Claim7.holds_tied_plain_at .later [] [.widerDeep] true (true, "240f496d2943213fe5a981944a66077259a857eb8a2388f942942cc3538f0e9e") false
    over (fun _ h => by cases h) (by kernel_rfl) (fun _ h => by cases h) legalRows_row_tie rfl ⟨rfl, rfl⟩ (by kernel_rfl) rfl
    (fun f fn hf hfn => by
      obtain rfl : f = 9 := Option.some.inj ((show Tryd.prog.funcNamed "recant/recantlaw10.LegalRows" = some 9 by kernel_rfl).symm.trans hf) |>.symm
      obtain rfl : fn = Tryd.f9 := (Option.some.inj (Tryd.func9.symm.trans hfn)).symm
      exact ⟨by kernel_rfl, fun j t ht => by
        rw [Tryd.params9] at ht
        have hm : t ∈ [22, 49, 58] := by simpa using Array.mem_of_getElem? ht
        have hall : ([22, 49, 58].all fun u => !Tryd.prog.wantsStandIn u) = true := by kernel_rfl
        exact (show Tryd.prog.wantsStandIn t = false by simpa using List.all_eq_true.1 hall t hm)⟩)
    (by kernel_rfl)
#print axioms card_holds
end Go.Proofs.YtkjkceeopkfniaaDoor.legalRows
namespace Go.Proofs.YtkjkceeopkfniaaDoor
/-- The card, under a short name, for the claim. -/
theorem legalRows_holds : Rows.LegalRowsCardSaid := legalRows.card_holds
end Go.Proofs.YtkjkceeopkfniaaDoor

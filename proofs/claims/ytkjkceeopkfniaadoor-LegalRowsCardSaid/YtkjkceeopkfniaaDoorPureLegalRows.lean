/- Proved: how many of any row of transactions read what they may, and the memory behind it, is as the document says, or refused. Condition: the program's table of kinds lies in memory as its text lays it (the card ties that to the text). -/
import Derived.Test.YtkjkceeopkfniaaDoorULegal
import Derived.Test.YtkjkceeopkfniaaDoorUTabY
import Derived.Test.YtkjkceeopkfniaaDoorUGrows
import Derived.Test.YtkjkceeopkfniaaDoorP11
namespace Go.Proofs.YtkjkceeopkfniaaDoor.Pure
set_option linter.unusedVariables false
set_option linter.unusedSimpArgs false
open Go Go.RowKit Go.Proofs.YtkjkceeopkfniaaDoor.P Go.Proofs.YtkjkceeopkfniaaDoorW.PrintWords Go.Proofs.YtkjkceeopkfniaaDoorW.PrintLast Go.Proofs.YtkjkceeopkfniaaDoorW.PrintMore Go.Proofs.YtkjkceeopkfniaaDoor.U

set_option maxRecDepth 100000 in
theorem alive10 : recantlaw10_alive.f = some true := by decide +kernel
theorem u32_of {a : Int} (w : (Lit.int .u32 a).wf = true) : 0 ≤ a ∧ a < 4294967296 := by
  have w : (decide (IntKind.u32.min ≤ a) && decide (a ≤ IntKind.u32.max)) = true := w
  rw [Bool.and_eq_true, decide_eq_true_eq, decide_eq_true_eq] at w
  have h1 : IntKind.u32.min = 0 := by decide
  have h2 : IntKind.u32.max = 4294967295 := by decide
  rw [h1, h2] at w
  omega
theorem row_ok {b : List S36} (h0 : whyB b = 0) (hb : b.length ≤ 65) {row : List Int} (hl : row.length ≤ 12) (hm : mayE 0 (tabT b).length row = 0) : RowOK (tabT b) row := by
  have hf : table_Table.f b = some (tabT b, 0) := by rw [why_table b, if_pos h0]
  have hr := (why_steps h0).1
  unfold rightsB at hr
  simp only [Bool.and_eq_true, decide_eq_true_eq] at hr
  refine ⟨fun i hi => ?_, table_var hf, fun i hi => ?_, by rw [tab_len h0]; exact hr.2.2, by omega⟩
  · obtain ⟨j, hj, rfl⟩ := List.mem_iff_getElem.1 hi
    exact may_in hm j hj
  · rw [tab_len h0] at hi
    rw [tab_rd h0 i hi]
    show (opsR [] b (namesF b)[i]).length ≤ 100
    have := opsR_len b (namesF b)[i] []
    omega
theorem LegalRows (l0 : List S36) (x0 : l0.length ≤ 9223372036854775807) (l1 : List Int) (x1 : l1.length ≤ 9223372036854775807) (a : Int) (w : (Lit.int .u32 a).wf = true) : ∃ k, recantlaw10_LegalRows.f k l0 l1 a = some true := by
  obtain ⟨ha0, ha1⟩ := u32_of w
  have hm0 : (mn (l0.length : Int) 65).toNat ≤ 65 ∧ 0 ≤ mn (l0.length : Int) 65 ∧ mn (l0.length : Int) 65 ≤ l0.length := by unfold mn; split <;> omega
  have hm1 : (mn (l1.length : Int) 12).toNat ≤ 12 ∧ 0 ≤ mn (l1.length : Int) 12 ∧ mn (l1.length : Int) 12 ≤ l1.length := by unfold mn; split <;> omega
  obtain ⟨b, hb⟩ : ∃ b, b = l0.take (mn (l0.length : Int) 65).toNat := ⟨_, rfl⟩
  obtain ⟨row, hrow⟩ : ∃ row, row = l1.take (mn (l1.length : Int) 12).toNat := ⟨_, rfl⟩
  have hbl : b.length ≤ 65 := by rw [hb, List.length_take]; omega
  have hrl : row.length ≤ 12 := by rw [hrow, List.length_take]; omega
  have hstart : ∀ k, recantlaw10_LegalRows.f k l0 l1 a = ((legal_Legal.f b row a).bind fun bt274 => ((legal_Memory.f b row a).bind fun bt276 => ((recantref05_Why.f k b).bind fun t280 => (if t280 = 0 then ((recantref06_Table.f k b).bind fun t281 => ((recantref10_May.f k t281 row).bind fun t284 => (recantlaw10_LegalRows.j0 k b row a bt274.1 bt274.2 bt276.1 bt276.2 t284))) else (recantlaw10_LegalRows.j0 k b row a bt274.1 bt274.2 bt276.1 bt276.2 t280))))) := by
    intro k
    unfold recantlaw10_LegalRows.f
    rw [if_pos hm0.2.1, if_pos hm0.2.2, ← hb, Option.bind_some, if_pos hm1.2.1, if_pos hm1.2.2, ← hrow, Option.bind_some]
  obtain ⟨K1, e1⟩ := why_ev b (by omega)
  by_cases h0 : whyB b = 0
  · obtain ⟨K2, e2⟩ := ptable_f b (by omega)
    have htl : (tabT b).length ≤ 1000000 := by
      rw [tab_len h0]
      have := names_len b
      omega
    obtain ⟨K3, e3⟩ := may_ev (tabT b) htl row (by omega)
    have hf : table_Table.f b = some (tabT b, 0) := by rw [why_table b, if_pos h0]
    have hL : legal_Legal.f b row a = some (if mayE 0 (tabT b).length row = 0 then (((goL (tabT b) a row zeros : Nat) : Int), 0) else (0, mayE 0 (tabT b).length row)) := by
      unfold legal_Legal.f
      rw [if_pos ⟨by omega, ha0, ha1⟩, hf, Option.bind_some]
    have hM : legal_Memory.f b row a = some (if mayE 0 (tabT b).length row = 0 then (memL (tabT b) a row zeros, 0) else ([], mayE 0 (tabT b).length row)) := by
      unfold legal_Memory.f
      rw [if_pos ⟨by omega, ha0, ha1⟩, hf, Option.bind_some]
    by_cases hm : mayE 0 (tabT b).length row = 0
    · have hok := row_ok h0 hbl hrl hm
      obtain ⟨K4, e4⟩ := legal_ev (tabT b) a ha0 ha1 row hok
      obtain ⟨K5, e5⟩ := beh_ev (tabT b) a ha0 ha1 row hok
      have hbr := behR_len (tabT b) a row [] hok
      rw [List.length_nil] at hbr
      obtain ⟨K6, e6⟩ := values_ev (memL (tabT b) a row zeros) (behR (tabT b) a row []) (rel_beh (tabT b) a row rel_zero hok) (by omega)
      obtain ⟨K7, e7⟩ := ints_ev (memL (tabT b) a row zeros) (by rw [(rel_beh (tabT b) a row rel_zero hok).1]; decide)
      refine ⟨max (max (max K1 K2) (max K3 K4)) (max (max K5 K6) K7) + 1, ?_⟩
      obtain ⟨k, hk⟩ : ∃ k, k = max (max (max K1 K2) (max K3 K4)) (max (max K5 K6) K7) := ⟨_, rfl⟩
      rw [← hk]
      have e1 := e1 (k + 1) (by omega)
      have e2a := e2 (k + 1) (by omega)
      have e2b := e2 k (by omega)
      have e3 := e3 (k + 1) (by omega)
      have e4 := e4 k (by omega)
      have e5 := e5 k (by omega)
      have e6 := e6 k (by omega)
      have e7 := e7 k (by omega)
      dsimp only at e1 e2a e2b e3 e4 e5 e6 e7
      rw [← tab_doc h0] at e2a e2b
      rw [hstart, hL, if_pos hm, Option.bind_some, hM, if_pos hm, Option.bind_some, e1, h0, Option.bind_some, if_pos rfl, e2a, Option.bind_some, e3, Option.bind_some, hm]
      simp only [recantlaw10_LegalRows.j0]
      rw [if_pos trivial, e2b, Option.bind_some, alive10, Option.bind_some, if_pos rfl, if_pos trivial, if_pos trivial, e4, Option.bind_some, if_pos rfl, e5, Option.bind_some, e6, Option.bind_some, e7]
      rfl
    · refine ⟨max K1 (max K2 K3) + 1, ?_⟩
      obtain ⟨k, hk⟩ : ∃ k, k = max K1 (max K2 K3) := ⟨_, rfl⟩
      rw [← hk]
      have e1 := e1 (k + 1) (by omega)
      have e2 := e2 (k + 1) (by omega)
      have e3 := e3 (k + 1) (by omega)
      dsimp only at e1 e2 e3
      rw [← tab_doc h0] at e2
      rw [hstart, hL, if_neg hm, Option.bind_some, hM, if_neg hm, Option.bind_some, e1, h0, Option.bind_some, if_pos rfl, e2, Option.bind_some, e3, Option.bind_some]
      simp only [recantlaw10_LegalRows.j0]
      rw [if_neg hm, alive10, Option.bind_some, if_pos rfl, if_pos trivial, if_pos trivial, if_pos trivial]
      rfl
  · have hf : table_Table.f b = some ([], whyB b) := by rw [why_table b, if_neg h0]
    have hmw : mayE (whyB b) 0 row = whyB b := by unfold mayE; rw [if_pos h0]
    have hL : legal_Legal.f b row a = some (0, whyB b) := by
      unfold legal_Legal.f
      rw [if_pos ⟨by omega, ha0, ha1⟩, hf, Option.bind_some]
      dsimp only [List.length_nil]
      rw [if_neg (by rw [hmw]; exact h0), hmw]
    have hM : legal_Memory.f b row a = some ([], whyB b) := by
      unfold legal_Memory.f
      rw [if_pos ⟨by omega, ha0, ha1⟩, hf, Option.bind_some]
      dsimp only [List.length_nil]
      rw [if_neg (by rw [hmw]; exact h0), hmw]
    refine ⟨K1 + 1, ?_⟩
    have e1 := e1 (K1 + 1) (by omega)
    dsimp only at e1
    rw [hstart, hL, Option.bind_some, hM, Option.bind_some, e1, Option.bind_some, if_neg h0]
    simp only [recantlaw10_LegalRows.j0]
    rw [if_neg h0, alive10, Option.bind_some, if_pos rfl, if_pos trivial, if_pos trivial, if_pos trivial]
    rfl
end Go.Proofs.YtkjkceeopkfniaaDoor.Pure

/- Plain facts: the document's memory of writes, the last one first, tells what a memory of eight values tells. -/
import Derived.Test.YtkjkceeopkfniaaDoorGMem
import Derived.Test.YtkjkceeopkfniaaDoorP3
import Derived.Test.YtkjkceeopkfniaaDoorP4
namespace Go.Proofs.YtkjkceeopkfniaaDoor.U
set_option linter.unusedVariables false
set_option linter.unusedSimpArgs false
open Go Go.RowKit Go.Proofs.YtkjkceeopkfniaaDoor.P Go.Proofs.YtkjkceeopkfniaaDoorW.PrintWords Go.Proofs.YtkjkceeopkfniaaDoorW.PrintLast Go.Proofs.YtkjkceeopkfniaaDoorW.PrintMore

/-! ### the document's memory -/
def getR : List S52 → Int → Int
  | [], _ => 0
  | o :: t, v => if o.f1 = v then o.f2 else getR t v
def stepR (L : List S52) (o : S52) : List S52 := if o.f0 = true then o :: L else L
def withR (L ops : List S52) : List S52 := ops.foldl stepR L
def Rel (m : List Int) (L : List S52) : Prop := m.length = 8 ∧ ∀ v : Nat, v < 8 → m.getD v 0 = getR L (v : Int)
theorem rel_step {m : List Int} {L : List S52} (h : Rel m L) (o : S52) (h0 : 0 ≤ o.f1) (h1 : o.f1 < 8) : Rel (memS m o) (stepR L o) := by
  refine ⟨(memS_len m o).trans h.1, fun v hv => ?_⟩
  unfold memS stepR
  by_cases hw : o.f0 = true
  · rw [if_pos hw, if_pos hw]
    show _ = if o.f1 = (v : Int) then o.f2 else getR L (v : Int)
    by_cases he : o.f1 = (v : Int)
    · have e1 : o.f1.toNat = v := by omega
      rw [if_pos he, e1, List.getD_eq_getElem?_getD, List.getElem?_set_self (by rw [h.1]; exact hv)]
      rfl
    · rw [if_neg he, List.getD_eq_getElem?_getD, List.getElem?_set_ne (by omega), ← List.getD_eq_getElem?_getD]
      exact h.2 v hv
  · rw [if_neg hw, if_neg hw]
    exact h.2 v hv
theorem rel_with (ops : List S52) : ∀ {m : List Int} {L : List S52}, Rel m L → (∀ o ∈ ops, 0 ≤ o.f1 ∧ o.f1 < 8) → Rel (withM m ops) (withR L ops) := by
  induction ops with
  | nil => intro m L h _; exact h
  | cons o t ih =>
    intro m L h hv
    have h1 := hv o List.mem_cons_self
    exact ih (rel_step h o h1.1 h1.2) (fun x hx => hv x (List.mem_cons_of_mem _ hx))
theorem withR_len (ops : List S52) : ∀ L : List S52, (withR L ops).length ≤ L.length + ops.length := by
  induction ops with
  | nil => intro L; exact Nat.le_refl _
  | cons o t ih =>
    intro L
    have h1 := ih (stepR L o)
    have h2 : (stepR L o).length ≤ L.length + 1 := by unfold stepR; split <;> simp
    show (withR (stepR L o) t).length ≤ L.length + (t.length + 1)
    omega
theorem get_loop (v : Int) (L : List S52) (hL : L.length < 1000000) (d : Nat) : ∀ i : Nat, i + d = L.length → Ev (fun k => recantref10_Get.l0 k v L (L.length : Int) (i : Int)) (getR (L.drop i) v) := by
  induction d with
  | zero =>
    intro i hi
    refine ⟨1, fun k hk => ?_⟩
    obtain ⟨k, rfl⟩ : ∃ m, k = m + 1 := ⟨k - 1, by omega⟩
    simp only [recantref10_Get.l0]
    rw [if_neg (by omega), List.drop_eq_nil_of_le (by omega)]
    rfl
  | succ d ih =>
    intro i hi
    obtain ⟨K, e⟩ := ih (i + 1) (by omega)
    refine ⟨K + 1, fun k hk => ?_⟩
    obtain ⟨k, rfl⟩ : ∃ m, k = m + 1 := ⟨k - 1, by omega⟩
    have e := e k (by omega)
    dsimp only at e
    simp only [recantref10_Get.l0]
    rw [if_pos (by omega), if_pos (by omega), if_pos (by omega), w64 (by omega) (by omega), show ((i : Int) + 1) = ((i + 1 : Nat) : Int) by omega, e, rdOp L i (by omega), List.drop_eq_getElem_cons (show i < L.length by omega)]
    show _ = some (if (L[i]).f1 = v then (L[i]).f2 else getR (L.drop (i + 1)) v)
    by_cases he : (L[i]).f1 = v
    · rw [if_pos he, if_pos he]
    · rw [if_neg he, if_neg he]
theorem get_ev (v : Int) (L : List S52) (hL : L.length < 1000000) : Ev (fun k => recantref10_Get.f k L v) (getR L v) := get_loop v L hL L.length 0 (by omega)
theorem with_loop (ops : List S52) (d : Nat) : ∀ (i : Nat) (L : List S52), i + d = ops.length → L.length + d < 1000000 → ops.length < 1000000 → Ev (fun k => recantref10_With.l0 k ops (ops.length : Int) (i : Int) L) (withR L (ops.drop i)) := by
  induction d with
  | zero =>
    intro i L hi hL ho
    refine ⟨1, fun k hk => ?_⟩
    obtain ⟨k, rfl⟩ : ∃ m, k = m + 1 := ⟨k - 1, by omega⟩
    simp only [recantref10_With.l0]
    rw [if_neg (by omega), List.drop_eq_nil_of_le (by omega)]
    rfl
  | succ d ih =>
    intro i L hi hL ho
    have hsl : (stepR L ops[i]).length ≤ L.length + 1 := by unfold stepR; split <;> simp
    obtain ⟨K, e⟩ := ih (i + 1) (stepR L ops[i]) (by omega) (by omega) ho
    refine ⟨K + 1, fun k hk => ?_⟩
    obtain ⟨k, rfl⟩ : ∃ m, k = m + 1 := ⟨k - 1, by omega⟩
    have e := e k (by omega)
    dsimp only at e
    simp only [recantref10_With.l0]
    rw [if_pos (by omega), if_pos (by omega), if_pos (by omega), w64 (by omega) (by omega), show ((i : Int) + 1) = ((i + 1 : Nat) : Int) by omega, rdOp ops i (by omega), List.drop_eq_getElem_cons (show i < ops.length by omega)]
    show _ = some (withR (stepR L ops[i]) (ops.drop (i + 1)))
    obtain ⟨⟨f0, f1, f2⟩, hq⟩ : ∃ o, o = ops[i] := ⟨_, rfl⟩
    rw [← hq] at e ⊢
    cases f0 with
    | true =>
      rw [if_pos rfl]
      unfold recantref10_Put.f
      rw [Option.bind_some, if_pos (by simp only [List.length_cons, List.length_nil]; omega), Option.bind_some]
      exact e
    | false =>
      rw [if_neg Bool.false_ne_true]
      exact e
theorem with_ev (L ops : List S52) (h1 : L.length + ops.length < 1000000) : Ev (fun k => recantref10_With.f k L ops) (withR L ops) := with_loop ops ops.length 0 L (by omega) h1 (by omega)
theorem withM_snoc (m : List Int) (ops : List S52) (i : Nat) (h : i < ops.length) : withM m (ops.take (i + 1)) = memS (withM m (ops.take i)) ops[i] := by
  unfold withM
  rw [List.take_succ_eq_append_getElem h, List.foldl_append]
  rfl
theorem ownM_cons (o : S52) (t : List S52) (m : List Int) : ownM (o :: t) m = if o.f0 = true then ownM t (memS m o) + 1 else if m.getD o.f1.toNat 0 = o.f2 then ownM t (memS m o) + 1 else 0 := rfl
theorem own_loop (ops L : List S52) (m : List Int) (hr : Rel m L) (hv : ∀ o ∈ ops, 0 ≤ o.f1 ∧ o.f1 < 8) (hl : L.length + ops.length < 1000000) (d : Nat) : ∀ i : Nat, i + d = ops.length → Ev (fun k => recantref10_Own.l0 k ops ops (ops.length : Int) (i : Int) L) ((i : Int) + (ownM (ops.drop i) (withM m (ops.take i)) : Nat)) := by
  induction d with
  | zero =>
    intro i hi
    refine ⟨1, fun k hk => ?_⟩
    obtain ⟨k, rfl⟩ : ∃ m, k = m + 1 := ⟨k - 1, by omega⟩
    simp only [recantref10_Own.l0]
    rw [if_neg (by omega), List.drop_eq_nil_of_le (by omega)]
    show some _ = some ((i : Int) + ((0 : Nat) : Int))
    congr 1
    omega
  | succ d ih =>
    intro i hi
    have hil : i < ops.length := by omega
    obtain ⟨K1, e1⟩ := ih (i + 1) (by omega)
    have htl : (ops.take i).length ≤ ops.length := by rw [List.length_take]; omega
    obtain ⟨K2, e2⟩ := with_ev L (ops.take i) (by omega)
    have hwl := withR_len (ops.take i) L
    obtain ⟨K3, e3⟩ := get_ev (ops[i]).f1 (withR L (ops.take i)) (by omega)
    have hri := rel_with (ops.take i) hr (fun o ho => hv o (List.mem_of_mem_take ho))
    have hvo := hv ops[i] (List.getElem_mem hil)
    refine ⟨max K1 (max K2 K3) + 1, fun k hk => ?_⟩
    obtain ⟨k, rfl⟩ : ∃ m, k = m + 1 := ⟨k - 1, by omega⟩
    have e1 := e1 k (by omega)
    have e2 := e2 k (by omega)
    have e3 := e3 k (by omega)
    dsimp only at e1 e2 e3
    simp only [recantref10_Own.l0]
    rw [if_pos (by omega), if_pos (by omega), if_pos (by omega), w64 (by omega) (by omega), show ((i : Int) + 1) = ((i + 1 : Nat) : Int) by omega, rdOp ops i hil, e1, Int.toNat_natCast, List.drop_eq_getElem_cons hil, withM_snoc m ops i hil]
    rw [ownM_cons]
    have hg := hri.2 (ops[i]).f1.toNat (by omega)
    rw [Int.toNat_of_nonneg hvo.1] at hg
    by_cases hw : (ops[i]).f0 = true
    · rw [if_pos hw, if_pos hw]
      congr 1
      try omega
    · rw [if_neg hw, if_neg hw, if_pos (by omega), e2, Option.bind_some, e3, Option.bind_some, ← hg]
      by_cases he : (withM m (ops.take i)).getD (ops[i]).f1.toNat 0 = (ops[i]).f2
      · rw [if_pos he, if_pos he]
        congr 1
        try omega
      · rw [if_neg he, if_neg he]
        congr 1
        try omega
theorem own_ev (ops L : List S52) (m : List Int) (hr : Rel m L) (hv : ∀ o ∈ ops, 0 ≤ o.f1 ∧ o.f1 < 8) (hl : L.length + ops.length < 1000000) : Ev (fun k => recantref10_Own.f k ops L) ((ownM ops m : Nat) : Int) := by
  obtain ⟨K, e⟩ := own_loop ops L m hr hv hl ops.length 0 (by omega)
  refine ⟨K, fun k hk => ?_⟩
  have e := e k hk
  dsimp only at e
  rw [List.drop_zero, List.take_zero] at e
  show recantref10_Own.l0 k ops ops (ops.length : Int) 0 L = _
  refine e.trans ?_
  show some ((0 : Int) + ((ownM ops m : Nat) : Int)) = _
  rw [Int.zero_add]
end Go.Proofs.YtkjkceeopkfniaaDoor.U

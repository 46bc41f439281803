/- Plain facts: the document's memory of writes, the last one first, tells what a memory of eight values tells. -/
import Derived.Test.YtkjkceeopkfniaaDoorGLegal
import Derived.Test.YtkjkceeopkfniaaDoorP7
import Derived.Test.YtkjkceeopkfniaaDoorP8
import Derived.Test.YtkjkceeopkfniaaDoorP9
import Derived.Test.YtkjkceeopkfniaaDoorP10
import Derived.Test.YtkjkceeopkfniaaDoorP11
import Derived.Test.YtkjkceeopkfniaaDoorP5
namespace Go.Proofs.YtkjkceeopkfniaaDoor.U
set_option linter.unusedVariables false
set_option linter.unusedSimpArgs false
open Go Go.RowKit Go.Proofs.YtkjkceeopkfniaaDoor.P Go.Proofs.YtkjkceeopkfniaaDoorW.PrintWords Go.Proofs.YtkjkceeopkfniaaDoorW.PrintLast Go.Proofs.YtkjkceeopkfniaaDoorW.PrintMore

/-! ### bits -/
def bitB (a : Int) (i : Nat) : Bool := decide (a / 2 ^ i % 2 = 1)
theorem bitC_eq (m : Int) (i : Nat) (h0 : 0 ≤ m) (h1 : m < 4294967296) (hi : i ≤ 32) : bitC m (i : Int) = bitB m i := by
  unfold bitC bitB
  rw [Int.toNat_natCast, Nat.min_eq_left hi]
  have hp : (0 : Int) < 2 ^ i := Int.pow_pos (by decide)
  have h2 : 0 ≤ m / 2 ^ i := Int.ediv_nonneg h0 (Int.le_of_lt hp)
  have h3 : m / 2 ^ i ≤ m := Int.ediv_le_self _ h0
  rw [show bits .and .u32 (m / 2 ^ i) 1 = m / 2 ^ i % 2 from Go.bits_mask .u32 32 (by decide) (fun n a b => by rw [IntKind.wrap_u32]; omega) 1 (by decide) (m / 2 ^ i) h2 (by omega)]
  rcases (by omega : m / 2 ^ i % 2 = 1 ∨ ¬ m / 2 ^ i % 2 = 1) with h | h
  · rw [h]; rfl
  · rw [decide_eq_false h]; simpa using h
theorem half_eq (a : Int) (h0 : 0 ≤ a) (h1 : a < 4294967296) : Int.tdiv a 2 % 4294967296 = a / 2 := by
  rw [Int.tdiv_eq_ediv_of_nonneg h0]; omega
theorem bit_ev (d : Nat) : ∀ (a x1 i : Int), 0 ≤ a → a < 4294967296 → 0 ≤ i → i + d = x1 → x1 < 1000000 → Ev (fun k => recantref09_Bit.l0 k a x1 i) (bitB a d) := by
  induction d with
  | zero =>
    intro a x1 i h0 h1 hi hd hx
    refine ⟨1, fun k hk => ?_⟩
    obtain ⟨k, rfl⟩ : ∃ m, k = m + 1 := ⟨k - 1, by omega⟩
    simp only [recantref09_Bit.l0]
    rw [if_neg (by omega)]
    unfold bitB
    rw [Int.tmod_eq_emod_of_nonneg h0]
    congr 1
    rcases (by omega : a % 2 = 1 ∨ a % 2 = 0) with h | h
    · rw [h]; simp [h]
    · rw [h]; simp [h]
  | succ d ih =>
    intro a x1 i h0 h1 hi hd hx
    obtain ⟨K, e⟩ := ih (a / 2) x1 (i + 1) (by omega) (by omega) (by omega) (by omega) hx
    refine ⟨K + 1, fun k hk => ?_⟩
    obtain ⟨k, rfl⟩ : ∃ m, k = m + 1 := ⟨k - 1, by omega⟩
    simp only [recantref09_Bit.l0]
    rw [if_pos (by omega), half_eq a h0 h1, w64 (by omega) (by omega)]
    have := e k (by omega)
    dsimp only at this
    rw [this]
    congr 1
    unfold bitB
    rw [Int.ediv_ediv_of_nonneg (by decide), ← Int.pow_succ']
theorem bit_f (a : Int) (i : Nat) (h0 : 0 ≤ a) (h1 : a < 4294967296) (hi : i ≤ 32) : Ev (fun k => recantref09_Bit.f k a i) (bitC a i) := by
  rw [bitC_eq a i h0 h1 hi]
  exact bit_ev i a i 0 h0 h1 (by omega) (by omega) (by omega)
/-! ### the document's memory -/
def getR : List S52 → Int → Int
  | [], _ => 0
  | o :: t, v => if o.f1 = v then o.f2 else getR t v
def stepR (L : List S52) (o : S52) : List S52 := if o.f0 = true then o :: L else L
def withR (L ops : List S52) : List S52 := ops.foldl stepR L
def Rel (m : List Int) (L : List S52) : Prop := m.length = 8 ∧ ∀ v : Nat, v < 8 → m.getD v 0 = getR L (v : Int)
theorem rel_zero : Rel zeros [] := by
  refine ⟨rfl, fun v hv => ?_⟩
  rcases (by omega : v = 0 ∨ v = 1 ∨ v = 2 ∨ v = 3 ∨ v = 4 ∨ v = 5 ∨ v = 6 ∨ v = 7) with rfl | rfl | rfl | rfl | rfl | rfl | rfl | rfl <;> rfl
theorem rel_step {m : List Int} {L : List S52} (h : Rel m L) (o : S52) (h0 : 0 ≤ o.f1) (h1 : o.f1 < 8) : Rel (memS m o) (stepR L o) := by
  refine ⟨(memS_len m o).trans h.1, fun v hv => ?_⟩
  unfold memS stepR
  by_cases hw : o.f0 = true
  · rw [if_pos hw, if_pos hw]
    show _ = if o.f1 = (v : Int) then o.f2 else getR L (v : Int)
    by_cases he : o.f1 = (v : Int)
    · have e1 : o.f1.toNat = v := by omega
      rw [if_pos he, e1, List.getD_eq_getElem?_getD, List.getElem?_set_self (by rw [h.1]; exact hv)]
      rfl
    · rw [if_neg he, List.getD_eq_getElem?_getD, List.getElem?_set_ne (by omega), ← List.getD_eq_getElem?_getD]
      exact h.2 v hv
  · rw [if_neg hw, if_neg hw]
    exact h.2 v hv
theorem rel_with (ops : List S52) : ∀ {m : List Int} {L : List S52}, Rel m L → (∀ o ∈ ops, 0 ≤ o.f1 ∧ o.f1 < 8) → Rel (withM m ops) (withR L ops) := by
  induction ops with
  | nil => intro m L h _; exact h
  | cons o t ih =>
    intro m L h hv
    have h1 := hv o List.mem_cons_self
    exact ih (rel_step h o h1.1 h1.2) (fun x hx => hv x (List.mem_cons_of_mem _ hx))
theorem withR_len (ops : List S52) : ∀ L : List S52, (withR L ops).length ≤ L.length + ops.length := by
  induction ops with
  | nil => intro L; exact Nat.le_refl _
  | cons o t ih =>
    intro L
    have h1 := ih (stepR L o)
    have h2 : (stepR L o).length ≤ L.length + 1 := by unfold stepR; split <;> simp
    show (withR (stepR L o) t).length ≤ L.length + (t.length + 1)
    omega
theorem get_loop (v : Int) (L : List S52) (hL : L.length < 1000000) (d : Nat) : ∀ i : Nat, i + d = L.length → Ev (fun k => recantref10_Get.l0 k v L (L.length : Int) (i : Int)) (getR (L.drop i) v) := by
  induction d with
  | zero =>
    intro i hi
    refine ⟨1, fun k hk => ?_⟩
    obtain ⟨k, rfl⟩ : ∃ m, k = m + 1 := ⟨k - 1, by omega⟩
    simp only [recantref10_Get.l0]
    rw [if_neg (by omega), List.drop_eq_nil_of_le (by omega)]
    rfl
  | succ d ih =>
    intro i hi
    obtain ⟨K, e⟩ := ih (i + 1) (by omega)
    refine ⟨K + 1, fun k hk => ?_⟩
    obtain ⟨k, rfl⟩ : ∃ m, k = m + 1 := ⟨k - 1, by omega⟩
    have e := e k (by omega)
    dsimp only at e
    simp only [recantref10_Get.l0]
    rw [if_pos (by omega), if_pos (by omega), if_pos (by omega), w64 (by omega) (by omega), show ((i : Int) + 1) = ((i + 1 : Nat) : Int) by omega, e, rdOp L i (by omega), List.drop_eq_getElem_cons (show i < L.length by omega)]
    show _ = some (if (L[i]).f1 = v then (L[i]).f2 else getR (L.drop (i + 1)) v)
    by_cases he : (L[i]).f1 = v
    · rw [if_pos he, if_pos he]
    · rw [if_neg he, if_neg he]
theorem get_ev (v : Int) (L : List S52) (hL : L.length < 1000000) : Ev (fun k => recantref10_Get.f k L v) (getR L v) := get_loop v L hL L.length 0 (by omega)
theorem with_loop (ops : List S52) (d : Nat) : ∀ (i : Nat) (L : List S52), i + d = ops.length → L.length + d < 1000000 → ops.length < 1000000 → Ev (fun k => recantref10_With.l0 k ops (ops.length : Int) (i : Int) L) (withR L (ops.drop i)) := by
  induction d with
  | zero =>
    intro i L hi hL ho
    refine ⟨1, fun k hk => ?_⟩
    obtain ⟨k, rfl⟩ : ∃ m, k = m + 1 := ⟨k - 1, by omega⟩
    simp only [recantref10_With.l0]
    rw [if_neg (by omega), List.drop_eq_nil_of_le (by omega)]
    rfl
  | succ d ih =>
    intro i L hi hL ho
    have hsl : (stepR L ops[i]).length ≤ L.length + 1 := by unfold stepR; split <;> simp
    obtain ⟨K, e⟩ := ih (i + 1) (stepR L ops[i]) (by omega) (by omega) ho
    refine ⟨K + 1, fun k hk => ?_⟩
    obtain ⟨k, rfl⟩ : ∃ m, k = m + 1 := ⟨k - 1, by omega⟩
    have e := e k (by omega)
    dsimp only at e
    simp only [recantref10_With.l0]
    rw [if_pos (by omega), if_pos (by omega), if_pos (by omega), w64 (by omega) (by omega), show ((i : Int) + 1) = ((i + 1 : Nat) : Int) by omega, rdOp ops i (by omega), List.drop_eq_getElem_cons (show i < ops.length by omega)]
    show _ = some (withR (stepR L ops[i]) (ops.drop (i + 1)))
    obtain ⟨⟨f0, f1, f2⟩, hq⟩ : ∃ o, o = ops[i] := ⟨_, rfl⟩
    rw [← hq] at e ⊢
    cases f0 with
    | true =>
      rw [if_pos rfl]
      unfold recantref10_Put.f
      rw [Option.bind_some, if_pos (by simp only [List.length_cons, List.length_nil]; omega), Option.bind_some]
      exact e
    | false =>
      rw [if_neg Bool.false_ne_true]
      exact e
theorem with_ev (L ops : List S52) (h1 : L.length + ops.length < 1000000) : Ev (fun k => recantref10_With.f k L ops) (withR L ops) := with_loop ops ops.length 0 L (by omega) h1 (by omega)
theorem withM_snoc (m : List Int) (ops : List S52) (i : Nat) (h : i < ops.length) : withM m (ops.take (i + 1)) = memS (withM m (ops.take i)) ops[i] := by
  unfold withM
  rw [List.take_succ_eq_append_getElem h, List.foldl_append]
  rfl
theorem ownM_cons (o : S52) (t : List S52) (m : List Int) : ownM (o :: t) m = if o.f0 = true then ownM t (memS m o) + 1 else if m.getD o.f1.toNat 0 = o.f2 then ownM t (memS m o) + 1 else 0 := rfl
theorem goL_cons (l : List S34) (c i : Int) (t m : List Int) : goL l c (i :: t) m = if ownM (rd_T34 l i).f4 m < (rd_T34 l i).f4.length then 0 else goL l c t (if bitC c i = true then withM m (rd_T34 l i).f4 else m) + 1 := rfl
theorem own_loop (ops L : List S52) (m : List Int) (hr : Rel m L) (hv : ∀ o ∈ ops, 0 ≤ o.f1 ∧ o.f1 < 8) (hl : L.length + ops.length < 1000000) (d : Nat) : ∀ i : Nat, i + d = ops.length → Ev (fun k => recantref10_Own.l0 k ops ops (ops.length : Int) (i : Int) L) ((i : Int) + (ownM (ops.drop i) (withM m (ops.take i)) : Nat)) := by
  induction d with
  | zero =>
    intro i hi
    refine ⟨1, fun k hk => ?_⟩
    obtain ⟨k, rfl⟩ : ∃ m, k = m + 1 := ⟨k - 1, by omega⟩
    simp only [recantref10_Own.l0]
    rw [if_neg (by omega), List.drop_eq_nil_of_le (by omega)]
    show some _ = some ((i : Int) + ((0 : Nat) : Int))
    congr 1
    omega
  | succ d ih =>
    intro i hi
    have hil : i < ops.length := by omega
    obtain ⟨K1, e1⟩ := ih (i + 1) (by omega)
    have htl : (ops.take i).length ≤ ops.length := by rw [List.length_take]; omega
    obtain ⟨K2, e2⟩ := with_ev L (ops.take i) (by omega)
    have hwl := withR_len (ops.take i) L
    obtain ⟨K3, e3⟩ := get_ev (ops[i]).f1 (withR L (ops.take i)) (by omega)
    have hri := rel_with (ops.take i) hr (fun o ho => hv o (List.mem_of_mem_take ho))
    have hvo := hv ops[i] (List.getElem_mem hil)
    refine ⟨max K1 (max K2 K3) + 1, fun k hk => ?_⟩
    obtain ⟨k, rfl⟩ : ∃ m, k = m + 1 := ⟨k - 1, by omega⟩
    have e1 := e1 k (by omega)
    have e2 := e2 k (by omega)
    have e3 := e3 k (by omega)
    dsimp only at e1 e2 e3
    simp only [recantref10_Own.l0]
    rw [if_pos (by omega), if_pos (by omega), if_pos (by omega), w64 (by omega) (by omega), show ((i : Int) + 1) = ((i + 1 : Nat) : Int) by omega, rdOp ops i hil, e1, Int.toNat_natCast, List.drop_eq_getElem_cons hil, withM_snoc m ops i hil]
    rw [ownM_cons]
    have hg := hri.2 (ops[i]).f1.toNat (by omega)
    rw [Int.toNat_of_nonneg hvo.1] at hg
    by_cases hw : (ops[i]).f0 = true
    · rw [if_pos hw, if_pos hw]
      congr 1
      try omega
    · rw [if_neg hw, if_neg hw, if_pos (by omega), e2, Option.bind_some, e3, Option.bind_some, ← hg]
      by_cases he : (withM m (ops.take i)).getD (ops[i]).f1.toNat 0 = (ops[i]).f2
      · rw [if_pos he, if_pos he]
        congr 1
        try omega
      · rw [if_neg he, if_neg he]
        congr 1
        try omega
theorem own_ev (ops L : List S52) (m : List Int) (hr : Rel m L) (hv : ∀ o ∈ ops, 0 ≤ o.f1 ∧ o.f1 < 8) (hl : L.length + ops.length < 1000000) : Ev (fun k => recantref10_Own.f k ops L) ((ownM ops m : Nat) : Int) := by
  obtain ⟨K, e⟩ := own_loop ops L m hr hv hl ops.length 0 (by omega)
  refine ⟨K, fun k hk => ?_⟩
  have e := e k hk
  dsimp only at e
  rw [List.drop_zero, List.take_zero] at e
  show recantref10_Own.l0 k ops ops (ops.length : Int) 0 L = _
  refine e.trans ?_
  show some ((0 : Int) + ((ownM ops m : Nat) : Int)) = _
  rw [Int.zero_add]
/-! ### rows of transactions -/
def behR (l : List S34) (c : Int) (row : List Int) (L : List S52) : List S52 := row.foldl (fun L i => if bitC c i = true then withR L (rd_T34 l i).f4 else L) L
/-- A row of places of a table whose transactions are short, and name variables. -/
structure RowOK (l : List S34) (row : List Int) : Prop where
  inn : ∀ i ∈ row, ∃ k : Nat, i = (k : Int) ∧ k < l.length
  var : ∀ i, i < l.length → ∀ o ∈ (rd_T34 l (i : Int)).f4, 0 ≤ o.f1 ∧ o.f1 < 8
  len : ∀ i, i < l.length → (rd_T34 l (i : Int)).f4.length ≤ 100
  few : l.length ≤ 6
  row : row.length ≤ 1000
theorem rdN (row : List Int) (i : Nat) (h : i < row.length) : rd row (i : Int) = row[i] := rdI row i h
theorem beh_loop (l : List S34) (c : Int) (h0 : 0 ≤ c) (h1 : c < 4294967296) (row : List Int) (hr : RowOK l row) (d : Nat) : ∀ (i : Nat) (L : List S52), i + d = row.length → L.length ≤ 100 * i → Ev (fun k => recantref10_Behind.l0 k l c row (row.length : Int) (i : Int) L) (behR l c (row.drop i) L) := by
  have hrl := hr.row
  induction d with
  | zero =>
    intro i L hi hL
    refine ⟨1, fun k hk => ?_⟩
    obtain ⟨k, rfl⟩ : ∃ m, k = m + 1 := ⟨k - 1, by omega⟩
    simp only [recantref10_Behind.l0]
    rw [if_neg (by omega), List.drop_eq_nil_of_le (by omega)]
    rfl
  | succ d ih =>
    intro i L hi hL
    have hil : i < row.length := by omega
    obtain ⟨j, hj, hjl⟩ := hr.inn row[i] (List.getElem_mem hil)
    have hol := hr.len j hjl
    have hfew := hr.few
    obtain ⟨K1, e1⟩ := bit_f c j h0 h1 (by omega)
    obtain ⟨K2, e2⟩ := with_ev L (rd_T34 l (j : Int)).f4 (by omega)
    have hwl := withR_len (rd_T34 l (j : Int)).f4 L
    obtain ⟨K3, e3⟩ := ih (i + 1) (withR L (rd_T34 l (j : Int)).f4) (by omega) (by omega)
    obtain ⟨K4, e4⟩ := ih (i + 1) L (by omega) (by omega)
    refine ⟨max (max K1 K2) (max K3 K4) + 1, fun k hk => ?_⟩
    obtain ⟨k, rfl⟩ : ∃ m, k = m + 1 := ⟨k - 1, by omega⟩
    have e1 := e1 k (by omega)
    have e2 := e2 k (by omega)
    have e3 := e3 k (by omega)
    have e4 := e4 k (by omega)
    dsimp only at e1 e2 e3 e4
    simp only [recantref10_Behind.l0]
    rw [if_pos (by omega), if_pos (by omega), if_pos (by omega), w64 (by omega) (by omega), show ((i : Int) + 1) = ((i + 1 : Nat) : Int) by omega, rdN row i hil, hj, e1, Option.bind_some, List.drop_eq_getElem_cons hil, hj]
    show _ = some (behR l c (row.drop (i + 1)) (if bitC c (j : Int) = true then withR L (rd_T34 l (j : Int)).f4 else L))
    by_cases hb : bitC c (j : Int) = true
    · rw [if_pos hb, if_pos hb, if_pos (by omega), if_pos (by omega), e2, Option.bind_some]
      exact e3
    · rw [if_neg hb, if_neg hb]
      exact e4
theorem beh_ev (l : List S34) (c : Int) (h0 : 0 ≤ c) (h1 : c < 4294967296) (row : List Int) (hr : RowOK l row) : Ev (fun k => recantref10_Behind.f k l row c) (behR l c row []) := beh_loop l c h0 h1 row hr row.length 0 [] (by omega) (by simp)
theorem rel_beh (l : List S34) (c : Int) (row : List Int) : ∀ {m : List Int} {L : List S52}, Rel m L → RowOK l row → Rel (memL l c row m) (behR l c row L) := by
  induction row with
  | nil => intro m L h _; exact h
  | cons i t ih =>
    intro m L h hr
    obtain ⟨j, rfl, hjl⟩ := hr.inn i List.mem_cons_self
    have ht : RowOK l t := ⟨fun x hx => hr.inn x (List.mem_cons_of_mem _ hx), hr.var, hr.len, hr.few, by have := hr.row; rw [List.length_cons] at this; omega⟩
    show Rel (memL l c t (if bitC c (j : Int) = true then withM m (rd_T34 l (j : Int)).f4 else m)) (behR l c t (if bitC c (j : Int) = true then withR L (rd_T34 l (j : Int)).f4 else L))
    refine ih ?_ ht
    by_cases hb : bitC c (j : Int) = true
    · rw [if_pos hb, if_pos hb]
      exact rel_with _ h (hr.var j hjl)
    · rw [if_neg hb, if_neg hb]
      exact h
theorem behR_len (l : List S34) (c : Int) (row : List Int) : ∀ L : List S52, RowOK l row → (behR l c row L).length ≤ L.length + 100 * row.length := by
  induction row with
  | nil => intro L _; exact Nat.le_refl _
  | cons i t ih =>
    intro L hr
    obtain ⟨j, rfl, hjl⟩ := hr.inn i List.mem_cons_self
    have ht : RowOK l t := ⟨fun x hx => hr.inn x (List.mem_cons_of_mem _ hx), hr.var, hr.len, hr.few, by have := hr.row; rw [List.length_cons] at this; omega⟩
    have h1 := ih (if bitC c (j : Int) = true then withR L (rd_T34 l (j : Int)).f4 else L) ht
    have h2 : (if bitC c (j : Int) = true then withR L (rd_T34 l (j : Int)).f4 else L).length ≤ L.length + 100 := by
      have hw := withR_len (rd_T34 l (j : Int)).f4 L
      have hl := hr.len j hjl
      split <;> omega
    show (behR l c t (if bitC c (j : Int) = true then withR L (rd_T34 l (j : Int)).f4 else L)).length ≤ L.length + 100 * (t.length + 1)
    omega
theorem memL_snoc (l : List S34) (c : Int) (row : List Int) (x : Int) : ∀ m, memL l c (row ++ [x]) m = (if bitC c x = true then withM (memL l c row m) (rd_T34 l x).f4 else memL l c row m) := by
  induction row with
  | nil => intro m; rfl
  | cons i t ih => intro m; exact ih _
theorem row_take {l : List S34} {row : List Int} (h : RowOK l row) (i : Nat) : RowOK l (row.take i) := ⟨fun x hx => h.inn x (List.mem_of_mem_take hx), h.var, h.len, h.few, by have := h.row; rw [List.length_take]; omega⟩
theorem legal_loop (l : List S34) (c : Int) (h0 : 0 ≤ c) (h1 : c < 4294967296) (row : List Int) (hr : RowOK l row) (d : Nat) : ∀ i : Nat, i + d = row.length → Ev (fun k => recantref10_Legal.l0 k l row c row (row.length : Int) (i : Int)) ((i : Int) + (goL l c (row.drop i) (memL l c (row.take i) zeros) : Nat)) := by
  have hrl := hr.row
  induction d with
  | zero =>
    intro i hi
    refine ⟨1, fun k hk => ?_⟩
    obtain ⟨k, rfl⟩ : ∃ m, k = m + 1 := ⟨k - 1, by omega⟩
    simp only [recantref10_Legal.l0]
    rw [if_neg (by omega), List.drop_eq_nil_of_le (by omega)]
    show some _ = some ((i : Int) + ((0 : Nat) : Int))
    congr 1
    omega
  | succ d ih =>
    intro i hi
    have hil : i < row.length := by omega
    obtain ⟨j, hj, hjl⟩ := hr.inn row[i] (List.getElem_mem hil)
    have hol := hr.len j hjl
    obtain ⟨K1, e1⟩ := ih (i + 1) (by omega)
    have hrt := row_take hr i
    obtain ⟨K2, e2⟩ := beh_ev l c h0 h1 (row.take i) hrt
    have hbl := behR_len l c (row.take i) [] hrt
    have htl : (row.take i).length ≤ row.length := by rw [List.length_take]; omega
    obtain ⟨K3, e3⟩ := own_ev (rd_T34 l (j : Int)).f4 (behR l c (row.take i) []) (memL l c (row.take i) zeros) (rel_beh l c (row.take i) rel_zero hrt) (hr.var j hjl) (by rw [List.length_nil] at hbl; omega)
    refine ⟨max K1 (max K2 K3) + 1, fun k hk => ?_⟩
    obtain ⟨k, rfl⟩ : ∃ m, k = m + 1 := ⟨k - 1, by omega⟩
    have e1 := e1 k (by omega)
    have e2 := e2 k (by omega)
    have e3 := e3 k (by omega)
    dsimp only at e1 e2 e3
    rw [List.take_succ_eq_append_getElem hil, memL_snoc, hj] at e1
    simp only [recantref10_Legal.l0]
    rw [if_pos (by omega), if_pos (by omega), if_pos (by omega), w64 (by omega) (by omega), show ((i : Int) + 1) = ((i + 1 : Nat) : Int) by omega, rdN row i hil, hj, if_pos (by omega), if_pos (by omega), if_pos (by omega), Int.toNat_natCast, e2, Option.bind_some, e3, Option.bind_some, e1, List.drop_eq_getElem_cons hil, hj]
    rw [goL_cons]
    by_cases hw : ownM (rd_T34 l (j : Int)).f4 (memL l c (row.take i) zeros) < (rd_T34 l (j : Int)).f4.length
    · rw [if_pos (by omega), if_pos hw]
      congr 1
      try omega
    · rw [if_neg (by omega), if_neg hw]
      congr 1
      try omega
theorem legal_ev (l : List S34) (c : Int) (h0 : 0 ≤ c) (h1 : c < 4294967296) (row : List Int) (hr : RowOK l row) : Ev (fun k => recantref10_Legal.f k l row c) ((goL l c row zeros : Nat) : Int) := by
  obtain ⟨K, e⟩ := legal_loop l c h0 h1 row hr row.length 0 (by omega)
  refine ⟨K, fun k hk => ?_⟩
  have e := e k hk
  dsimp only at e
  rw [List.drop_zero, List.take_zero] at e
  refine Eq.trans (show _ = recantref10_Legal.l0 k l row c row (row.length : Int) ((0 : Nat) : Int) from rfl) (e.trans ?_)
  show some ((0 : Int) + ((goL l c row zeros : Nat) : Int)) = _
  rw [Int.zero_add]
theorem values_loop (m : List Int) (L : List S52) (hr : Rel m L) (hL : L.length < 1000000) (d : Nat) : ∀ (i : Nat) (out : List Int), i + d = 8 → out.length = i → Ev (fun k => recantref10_Values.l0 k out (i : Int) L) (out ++ m.drop i) := by
  induction d with
  | zero =>
    intro i out hi ho
    refine ⟨1, fun k hk => ?_⟩
    obtain ⟨k, rfl⟩ : ∃ m, k = m + 1 := ⟨k - 1, by omega⟩
    simp only [recantref10_Values.l0]
    rw [if_neg (by omega), List.drop_eq_nil_of_le (by rw [hr.1]; omega), List.append_nil]
  | succ d ih =>
    intro i out hi ho
    obtain ⟨K1, e1⟩ := get_ev (i : Int) L hL
    obtain ⟨K2, e2⟩ := ih (i + 1) (out ++ [getR L (i : Int)]) (by omega) (by rw [List.length_append, ho]; rfl)
    refine ⟨max K1 K2 + 1, fun k hk => ?_⟩
    obtain ⟨k, rfl⟩ : ∃ m, k = m + 1 := ⟨k - 1, by omega⟩
    have e1 := e1 k (by omega)
    have e2 := e2 k (by omega)
    dsimp only at e1 e2
    have hil : i < m.length := by rw [hr.1]; omega
    have hg := hr.2 i (by omega)
    rw [List.getD_eq_getElem?_getD, List.getElem?_eq_getElem hil] at hg
    have hg : m[i] = getR L (i : Int) := hg
    simp only [recantref10_Values.l0]
    rw [if_pos (by omega), e1, Option.bind_some, if_pos (by omega), w64 (by omega) (by omega), show ((i : Int) + 1) = ((i + 1 : Nat) : Int) by omega, e2, List.drop_eq_getElem_cons hil, hg, List.append_assoc]
    rfl
theorem values_ev (m : List Int) (L : List S52) (hr : Rel m L) (hL : L.length < 1000000) : Ev (fun k => recantref10_Values.f k L) m := by
  obtain ⟨K, e⟩ := values_loop m L hr hL 8 0 [] (by omega) rfl
  exact ⟨K, fun k hk => e k hk⟩
/-! ### why a row can't be looked at -/
theorem may2_ev (row : List Int) (hl : row.length ≤ 1000) (x : Int) (i : Nat) (hi : i < row.length) (r : Int) (hnext : Ev (fun k => recantref10_May.l1 k row row (row.length : Int) ((i + 1 : Nat) : Int)) r) (y : List Int) (hy : y.length ≤ row.length) (d : Nat) : ∀ j : Nat, j + d = y.length → Ev (fun k => recantref10_May.l2 k row x row (row.length : Int) (i : Int) y (y.length : Int) (j : Int)) (if (y.drop j).contains x = true then 1 else r) := by
  induction d with
  | zero =>
    intro j hj
    obtain ⟨K, e⟩ := hnext
    refine ⟨K + 1, fun k hk => ?_⟩
    obtain ⟨k, rfl⟩ : ∃ m, k = m + 1 := ⟨k - 1, by omega⟩
    have e := e k (by omega)
    dsimp only at e
    simp only [recantref10_May.l2]
    rw [if_neg (by omega), w64 (by omega) (by omega), show ((i : Int) + 1) = ((i + 1 : Nat) : Int) by omega, e, List.drop_eq_nil_of_le (by omega)]
    rfl
  | succ d ih =>
    intro j hj
    obtain ⟨K, e⟩ := ih (j + 1) (by omega)
    refine ⟨K + 1, fun k hk => ?_⟩
    obtain ⟨k, rfl⟩ : ∃ m, k = m + 1 := ⟨k - 1, by omega⟩
    have e := e k (by omega)
    dsimp only at e
    have hjl : j < y.length := by omega
    simp only [recantref10_May.l2]
    rw [if_pos (by omega), if_pos (by omega), if_pos (by omega), w64 (by omega) (by omega), show ((j : Int) + 1) = ((j + 1 : Nat) : Int) by omega, e, rdN y j hjl, List.drop_eq_getElem_cons hjl, List.contains_cons]
    by_cases he : y[j] = x
    · rw [if_pos he, if_pos (by rw [he]; simp)]
    · rw [if_neg he]
      have hne : (x == y[j]) = false := beq_eq_false_iff_ne.2 (fun q => he q.symm)
      rw [hne, Bool.false_or]
theorem may1_ev (row : List Int) (hl : row.length ≤ 1000) (d : Nat) : ∀ i : Nat, i + d = row.length → Ev (fun k => recantref10_May.l1 k row row (row.length : Int) (i : Int)) (if dupP (row.take i) (row.drop i) = true then 1 else 0) := by
  induction d with
  | zero =>
    intro i hi
    refine ⟨1, fun k hk => ?_⟩
    obtain ⟨k, rfl⟩ : ∃ m, k = m + 1 := ⟨k - 1, by omega⟩
    simp only [recantref10_May.l1]
    rw [if_neg (by omega), List.drop_eq_nil_of_le (by omega)]
    rfl
  | succ d ih =>
    intro i hi
    have hil : i < row.length := by omega
    have hy : (row.take i).length ≤ row.length := by rw [List.length_take]; omega
    obtain ⟨K, e⟩ := may2_ev row hl row[i] i hil _ (ih (i + 1) (by omega)) (row.take i) hy (row.take i).length 0 (by omega)
    refine ⟨K + 1, fun k hk => ?_⟩
    obtain ⟨k, rfl⟩ : ∃ m, k = m + 1 := ⟨k - 1, by omega⟩
    have e := e k (by omega)
    dsimp only at e
    rw [List.drop_zero] at e
    simp only [recantref10_May.l1]
    rw [if_pos (by omega), if_pos (by omega), if_pos (by omega), if_pos (by omega), Option.bind_some, Int.toNat_natCast, rdN row i hil]
    refine Eq.trans (show _ = recantref10_May.l2 k row row[i] row (row.length : Int) (i : Int) (row.take i) ((row.take i).length : Int) ((0 : Nat) : Int) from rfl) (e.trans ?_)
    rw [List.drop_eq_getElem_cons hil, List.take_succ_eq_append_getElem hil]
    show _ = some (if ((row.take i).contains row[i] || dupP (row.take i ++ [row[i]]) (row.drop (i + 1))) = true then 1 else 0)
    cases (row.take i).contains row[i] with
    | true => rfl
    | false => rfl
theorem may0_ev (l : List S34) (hll : l.length ≤ 1000000) (row : List Int) (hl : row.length ≤ 1000) (d : Nat) : ∀ i : Nat, i + d = row.length → Ev (fun k => recantref10_May.l0 k l row row (row.length : Int) (i : Int)) (if (row.drop i).any (outB l.length) = true then 7 else if dupP [] row = true then 1 else 0) := by
  induction d with
  | zero =>
    intro i hi
    obtain ⟨K, e⟩ := may1_ev row hl row.length 0 (by omega)
    refine ⟨K + 1, fun k hk => ?_⟩
    obtain ⟨k, rfl⟩ : ∃ m, k = m + 1 := ⟨k - 1, by omega⟩
    have e := e k (by omega)
    dsimp only at e
    rw [List.drop_zero, List.take_zero] at e
    simp only [recantref10_May.l0]
    rw [if_neg (by omega), List.drop_eq_nil_of_le (by omega)]
    exact e
  | succ d ih =>
    intro i hi
    have hil : i < row.length := by omega
    obtain ⟨K, e⟩ := ih (i + 1) (by omega)
    refine ⟨K + 1, fun k hk => ?_⟩
    obtain ⟨k, rfl⟩ : ∃ m, k = m + 1 := ⟨k - 1, by omega⟩
    have e := e k (by omega)
    dsimp only at e
    simp only [recantref10_May.l0]
    rw [if_pos (by omega), if_pos (by omega), if_pos (by omega), w64 (by omega) (by omega), show ((i : Int) + 1) = ((i + 1 : Nat) : Int) by omega, e, rdN row i hil, List.drop_eq_getElem_cons hil, List.any_cons]
    unfold outB
    by_cases h0 : row[i] < 0
    · rw [if_pos h0, decide_eq_true h0]; rfl
    · rw [if_neg h0, decide_eq_false h0, Bool.false_or]
      by_cases h1 : (l.length : Int) ≤ row[i]
      · rw [if_pos h1, decide_eq_true h1]; rfl
      · rw [if_neg h1, decide_eq_false h1, Bool.false_or]
theorem may_ev (l : List S34) (hll : l.length ≤ 1000000) (row : List Int) (hl : row.length ≤ 1000) : Ev (fun k => recantref10_May.f k l row) (mayE 0 l.length row) := by
  obtain ⟨K, e⟩ := may0_ev l hll row hl row.length 0 (by omega)
  refine ⟨K, fun k hk => ?_⟩
  have e := e k hk
  dsimp only at e
  rw [List.drop_zero] at e
  unfold mayE
  rw [if_neg (by decide)]
  exact e
theorem ints_loop (a : List Int) (hm : a.length < 1000000) (d : Nat) : ∀ i : Nat, i + d = a.length → Ev (fun k => recantref01_Ints.l0 k a a (a.length : Int) (i : Int)) true := by
  induction d with
  | zero =>
    intro i hi
    refine ⟨1, fun k hk => ?_⟩
    obtain ⟨k, rfl⟩ : ∃ m, k = m + 1 := ⟨k - 1, by omega⟩
    simp only [recantref01_Ints.l0]
    rw [if_neg (by omega)]
  | succ d ih =>
    intro i hi
    obtain ⟨K, e⟩ := ih (i + 1) (by omega)
    refine ⟨K + 1, fun k hk => ?_⟩
    obtain ⟨k, rfl⟩ : ∃ m, k = m + 1 := ⟨k - 1, by omega⟩
    simp only [recantref01_Ints.l0]
    rw [if_pos (by omega), if_pos (by omega), if_pos (by omega), if_pos (by omega), if_pos trivial, w64 (by omega) (by omega), show ((i : Int) + 1) = ((i + 1 : Nat) : Int) by omega]
    exact e k (by omega)
theorem ints_ev (a : List Int) (hm : a.length < 1000000) : Ev (fun k => recantref01_Ints.f k a a) true := by
  obtain ⟨K, e⟩ := ints_loop a hm a.length 0 (by omega)
  refine ⟨K, fun k hk => ?_⟩
  simp only [recantref01_Ints.f]
  rw [if_pos trivial]
  exact e k hk
end Go.Proofs.YtkjkceeopkfniaaDoor.U

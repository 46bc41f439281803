/- The document's Why, plainly: it is what proper.Check tells. -/
import Derived.Test.YtkjkceeopkfniaaDoorURef2R
import Derived.Test.YtkjkceeopkfniaaDoorGCheck
import Derived.Test.YtkjkceeopkfniaaDoorP5
namespace Go.Proofs.YtkjkceeopkfniaaDoor.U
set_option linter.unusedVariables false
set_option linter.unusedSimpArgs false
open Go Go.RowKit Go.Proofs.YtkjkceeopkfniaaDoor.P Go.Proofs.YtkjkceeopkfniaaDoorW.PrintWords Go.Proofs.YtkjkceeopkfniaaDoorW.PrintLast Go.Proofs.YtkjkceeopkfniaaDoorW.PrintMore

def lastF (tx : Int) (a : Int) (e : S36) : Int := if e.f1 = tx then e.f0 else a
def lastK (l : List S36) (tx : Int) : Int := l.foldl (lastF tx) (-1)
theorem plast (l : List S36) (tx : Int) (hl : l.length ≤ 1000) (d : Nat) : ∀ (i : Nat) (a : Int), i + d = l.length → Ev (fun k => recantref05_Last.l0 k tx a l (l.length : Int) (i : Int)) ((l.drop i).foldl (lastF tx) a) := by
  induction d with
  | zero =>
    intro i a hi
    refine ⟨1, fun k hk => ?_⟩
    obtain ⟨k, rfl⟩ : ∃ m, k = m + 1 := ⟨k - 1, by omega⟩
    simp only [recantref05_Last.l0]
    rw [if_neg (by omega), show i = l.length by omega, List.drop_length]; rfl
  | succ d ih =>
    intro i a hi
    obtain ⟨K, e⟩ := ih (i + 1) (lastF tx a (rd_T36 l (i : Int))) (by omega)
    refine ⟨K + 1, fun k hk => ?_⟩
    obtain ⟨k, rfl⟩ : ∃ m, k = m + 1 := ⟨k - 1, by omega⟩
    have e := e k (by omega)
    dsimp only at e
    simp only [recantref05_Last.l0]
    rw [if_pos (by omega), if_pos (by omega), if_pos (by omega), drop_consE l i (by omega), List.foldl_cons, w64 (by omega) (by omega), show ((i : Int) + 1) = ((i + 1 : Nat) : Int) by omega]
    unfold lastF at e ⊢
    by_cases h : (rd_T36 l (i : Int)).f1 = tx
    · rw [if_pos h] at e ⊢
      rw [if_pos h]
      exact e
    · rw [if_neg h] at e ⊢
      rw [if_neg h]
      exact e
theorem plast_f (l : List S36) (tx : Int) (hl : l.length ≤ 1000) : Ev (fun k => recantref05_Last.f k l tx) (lastK l tx) := plast l tx hl l.length 0 (-1) (by omega)
theorem last_snoc (l : List S36) (e : S36) (tx : Int) : lastK (l ++ [e]) tx = if e.f1 = tx then e.f0 else lastK l tx := by
  unfold lastK
  rw [List.foldl_append]
  rfl
def mayB (a b : Int) : Bool := if a = -1 then b == 0 else if a = 0 then (b == 1 || b == 9) else if a = 1 ∨ a = 3 ∨ a = 5 then (b == 2 || b == 4 || b == 6 || b == 8) else if a = 2 then (b == 3 || b == 9) else if a = 4 then (b == 5 || b == 9) else if a = 6 then (b == 7 || b == 9) else if a = 8 then b == 9 else false
theorem eq_or (b : Int) (c : Int) (x : Bool) : (if b = c then some true else some x) = some (b == c || x) := by
  by_cases h : b = c
  · rw [if_pos h, h]; simp
  · have : (b == c) = false := beq_eq_false_iff_ne.2 h
    rw [if_neg h, this, Bool.false_or]
theorem or4 (b : Int) : (if b = 2 then some true else if b = 4 then some true else if b = 6 then some true else some (b == 8)) = some (b == 2 || b == 4 || b == 6 || b == 8) := by
  rw [eq_or, eq_or, eq_or]
  simp [Bool.or_assoc]
theorem pmay (a b : Int) : ∀ k, recantref05_May.f (k + 1) a b = some (mayB a b) := by
  intro k
  unfold recantref05_May.f mayB
  by_cases h0 : a = -1
  · rw [if_pos h0, if_pos h0]
  rw [if_neg h0, if_neg h0]
  by_cases h1 : a = 0
  · rw [if_pos h1, if_pos h1, eq_or]
  rw [if_neg h1, if_neg h1]
  by_cases hodd : a = 1 ∨ a = 3 ∨ a = 5
  · have hj : (if a = 1 then recantref05_May.j0 (k + 1) b a (a == 1) else if a = 3 then recantref05_May.j0 (k + 1) b a (a == 3) else recantref05_May.j0 (k + 1) b a (a == 5)) = recantref05_May.j0 (k + 1) b a true := by
      rcases hodd with rfl | rfl | rfl <;> rfl
    rw [hj, if_pos hodd]
    simp only [recantref05_May.j0]
    rw [if_pos trivial, or4]
  have hf5 : (a == 5) = false := beq_eq_false_iff_ne.2 (fun h => hodd (.inr (.inr h)))
  rw [if_neg (show ¬ a = 1 by omega), if_neg (show ¬ a = 3 by omega), if_neg hodd, hf5]
  simp only [recantref05_May.j0]
  rw [if_neg Bool.false_ne_true]
  by_cases h6 : a = 2
  · rw [if_pos h6, if_pos h6, eq_or]
  rw [if_neg h6, if_neg h6]
  by_cases h7 : a = 4
  · rw [if_pos h7, if_pos h7, eq_or]
  rw [if_neg h7, if_neg h7]
  by_cases h8 : a = 6
  · rw [if_pos h8, if_pos h8, eq_or]
  rw [if_neg h8, if_neg h8]
  by_cases h9 : a = 8
  · rw [if_pos h9, if_pos h9]
  rw [if_neg h9, if_neg h9]
def firstR : List S36 → List S36 → Nat
  | _, [] => 0
  | p, e :: t => if mayB (lastK p e.f1) e.f0 = true then firstR (p ++ [e]) t + 1 else 0
theorem take_snoc76 (l : List S36) (i : Nat) (h : i < l.length) : l.take (i + 1) = l.take i ++ [rd_T36 l (i : Int)] := by
  rw [List.take_succ_eq_append_getElem h]
  congr 2
  unfold rd_T36; rw [Int.toNat_natCast, List.getD_eq_getElem?_getD, List.getElem?_eq_getElem h]; rfl
theorem pfirst (l : List S36) (hl : l.length ≤ 1000) (d : Nat) : ∀ i : Nat, i + d = l.length → Ev (fun k => recantref05_First.l0 k l l (l.length : Int) (i : Int)) ((i + firstR (l.take i) (l.drop i) : Nat) : Int) := by
  induction d with
  | zero =>
    intro i hi
    refine ⟨1, fun k hk => ?_⟩
    obtain ⟨k, rfl⟩ : ∃ m, k = m + 1 := ⟨k - 1, by omega⟩
    simp only [recantref05_First.l0]
    rw [if_neg (by omega), show i = l.length by omega, List.drop_length]
    rfl
  | succ d ih =>
    intro i hi
    obtain ⟨K1, e1⟩ := ih (i + 1) (by omega)
    obtain ⟨K2, e2⟩ := plast_f (l.take i) (rd_T36 l (i : Int)).f1 (by rw [List.length_take]; omega)
    refine ⟨max K1 K2 + 2, fun k hk => ?_⟩
    obtain ⟨k, rfl⟩ : ∃ m, k = m + 1 + 1 := ⟨k - 2, by omega⟩
    have e1 := e1 (k + 1) (by omega)
    have e2 := e2 (k + 1) (by omega)
    dsimp only at e1 e2
    have hm := pmay (lastK (l.take i) (rd_T36 l (i : Int)).f1) (rd_T36 l (i : Int)).f0 k
    obtain ⟨q, hq⟩ : ∃ q, q = k + 1 := ⟨_, rfl⟩
    rw [← hq] at e1 e2 hm ⊢
    simp only [recantref05_First.l0]
    rw [if_pos (by omega), if_pos (by omega), if_pos (by omega), if_pos (by omega), Int.toNat_natCast, e2, Option.bind_some, hm, Option.bind_some, drop_consE l i (by omega)]
    unfold firstR
    cases mayB (lastK (l.take i) (rd_T36 l (i : Int)).f1) (rd_T36 l (i : Int)).f0 with
    | true =>
      rw [if_pos rfl, if_pos rfl, w64 (by omega) (by omega), show ((i : Int) + 1) = ((i + 1 : Nat) : Int) by omega, e1, take_snoc76 l i (by omega)]
      congr 1
      omega
    | false =>
      rw [if_neg Bool.false_ne_true, if_neg Bool.false_ne_true]
      rfl
theorem pfirst_f (l : List S36) (hl : l.length ≤ 1000) : Ev (fun k => recantref05_First.f k l) ((firstR [] l : Nat) : Int) := by
  have := pfirst l hl l.length 0 (by omega)
  rw [List.drop_zero, List.take_zero, Nat.zero_add] at this
  exact this
/-- The state behind a kind. -/
def stK (a : Int) : Int := if a = -1 then 0 else if a = 0 then 1 else if a = 1 ∨ a = 3 ∨ a = 5 then 2 else if a = 2 then 3 else if a = 4 then 4 else if a = 6 then 5 else if a = 8 then 6 else 7
theorem next_st (a b : Int) (h0 : -1 ≤ a) (h1 : a ≤ 9) (h2 : 0 ≤ b) (h3 : b ≤ 9) : nextS (stK a) b = if mayB a b = true then some (stK b) else none := by
  have h : ∀ (i : Fin 11) (j : Fin 10), nextS (stK ((i.val : Int) - 1)) (j.val : Int) = if mayB ((i.val : Int) - 1) (j.val : Int) = true then some (stK (j.val : Int)) else none := by decide +kernel
  have := h ⟨(a + 1).toNat, by omega⟩ ⟨b.toNat, by omega⟩
  dsimp only at this
  rw [show (((a + 1).toNat : Nat) : Int) - 1 = a by omega, show ((b.toNat : Nat) : Int) = b by omega] at this
  exact this
theorem first_run (t : List S36) : ∀ (p : List S36) (g : Int → Option Int), (∀ tx, (g tx).getD 0 = stK (lastK p tx)) → (∀ tx, -1 ≤ lastK p tx ∧ lastK p tx ≤ 9) → (∀ e ∈ t, 0 ≤ e.f0 ∧ e.f0 ≤ 9) → firstR p t = runI g t := by
  induction t with
  | nil => intro p g _ _ _; rfl
  | cons e t ih =>
    intro p g hg hp ht
    have he := ht e List.mem_cons_self
    have hp1 := hp e.f1
    unfold firstR runI
    rw [hg, next_st _ _ hp1.1 hp1.2 he.1 he.2]
    cases mayB (lastK p e.f1) e.f0 with
    | false => rfl
    | true =>
      rw [if_pos rfl, if_pos rfl]
      dsimp only
      rw [ih (p ++ [e]) (setF g e.f1 (stK e.f0)) (fun tx => ?_) (fun tx => ?_) (fun x hx => ht x (List.mem_cons_of_mem _ hx))]
      · rw [last_snoc]
        unfold setF
        by_cases h : e.f1 = tx
        · rw [if_pos h, if_pos h.symm]; rfl
        · rw [if_neg h, if_neg (fun q => h q.symm)]; exact hg tx
      · rw [last_snoc]
        by_cases h : e.f1 = tx
        · rw [if_pos h]; omega
        · rw [if_neg h]; exact hp tx
theorem rights_kinds {l : List S36} (h : rightsB l = true) : ∀ e ∈ l, 0 ≤ e.f0 ∧ e.f0 ≤ 9 := by
  unfold rightsB at h
  simp only [Bool.and_eq_true, Bool.not_eq_true'] at h
  intro e he
  have h1 := List.any_eq_false.1 h.2.1 e he
  have h2 : rightB e = true := by simpa using h1
  unfold rightB inB at h2
  simp only [Bool.and_eq_true, decide_eq_true_eq] at h2
  exact h2.1
def whyB (l : List S36) : Int := if rightsB l = true then (if (runI noF l : Int) < l.length then 6 else 0) else 1
theorem why_ev (l : List S36) (hl : l.length ≤ 1000) : Ev (fun k => recantref05_Why.f k l) (whyB l) := by
  obtain ⟨K1, e1⟩ := prights_f l hl
  obtain ⟨K2, e2⟩ := pfirst_f l hl
  refine ⟨max K1 K2, fun k hk => ?_⟩
  have e1 := e1 k (by omega)
  have e2 := e2 k (by omega)
  dsimp only at e1 e2
  show recantref05_Why.f k l = some (whyB l)
  unfold recantref05_Why.f whyB
  rw [e1, Option.bind_some]
  cases hr : rightsB l with
  | false => rw [if_neg Bool.false_ne_true, if_neg Bool.false_ne_true]
  | true =>
    rw [if_pos rfl, if_pos rfl, e2, Option.bind_some, first_run l [] noF (fun tx => rfl) (fun tx => ⟨by show -1 ≤ (-1 : Int); omega, by show (-1 : Int) ≤ 9; omega⟩) (rights_kinds hr)]
    by_cases h : (runI noF l : Int) < l.length
    · rw [if_pos h, if_pos h]
    · rw [if_neg h, if_neg h]
end Go.Proofs.YtkjkceeopkfniaaDoor.U

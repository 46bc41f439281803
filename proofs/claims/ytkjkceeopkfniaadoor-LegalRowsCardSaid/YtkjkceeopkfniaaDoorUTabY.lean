/- The document's Why and Table, plainly: they are what the program's tell. -/
import Derived.Test.YtkjkceeopkfniaaDoorUTabX
import Derived.Test.YtkjkceeopkfniaaDoorURef2R
import Derived.Test.YtkjkceeopkfniaaDoorURef2
import Derived.Test.YtkjkceeopkfniaaDoorGCheck
import Derived.Test.YtkjkceeopkfniaaDoorP3
import Derived.Test.YtkjkceeopkfniaaDoorP4
namespace Go.Proofs.YtkjkceeopkfniaaDoor.U
set_option linter.unusedVariables false
set_option linter.unusedSimpArgs false
open Go Go.RowKit Go.Proofs.YtkjkceeopkfniaaDoor.P Go.Proofs.YtkjkceeopkfniaaDoorW.PrintWords Go.Proofs.YtkjkceeopkfniaaDoorW.PrintLast Go.Proofs.YtkjkceeopkfniaaDoorW.PrintMore

theorem plast (l : List S36) (tx : Int) (hl : l.length ≤ 1000) (d : Nat) : ∀ (i : Nat) (a : Int), i + d = l.length → Ev (fun k => recantref05_Last.l0 k tx a l (l.length : Int) (i : Int)) ((l.drop i).foldl (lastF tx) a) := by
  induction d with
  | zero =>
    intro i a hi
    refine ⟨1, fun k hk => ?_⟩
    obtain ⟨k, rfl⟩ : ∃ m, k = m + 1 := ⟨k - 1, by omega⟩
    simp only [recantref05_Last.l0]
    rw [if_neg (by omega), show i = l.length by omega, List.drop_length]; rfl
  | succ d ih =>
    intro i a hi
    obtain ⟨K, e⟩ := ih (i + 1) (lastF tx a (rd_T36 l (i : Int))) (by omega)
    refine ⟨K + 1, fun k hk => ?_⟩
    obtain ⟨k, rfl⟩ : ∃ m, k = m + 1 := ⟨k - 1, by omega⟩
    have e := e k (by omega)
    dsimp only at e
    simp only [recantref05_Last.l0]
    rw [if_pos (by omega), if_pos (by omega), if_pos (by omega), drop_consE l i (by omega), List.foldl_cons, w64 (by omega) (by omega), show ((i : Int) + 1) = ((i + 1 : Nat) : Int) by omega]
    unfold lastF at e ⊢
    by_cases h : (rd_T36 l (i : Int)).f1 = tx
    · rw [if_pos h] at e ⊢
      rw [if_pos h]
      exact e
    · rw [if_neg h] at e ⊢
      rw [if_neg h]
      exact e
theorem plast_f (l : List S36) (tx : Int) (hl : l.length ≤ 1000) : Ev (fun k => recantref05_Last.f k l tx) (lastK l tx) := plast l tx hl l.length 0 (-1) (by omega)
theorem eq_or (b : Int) (c : Int) (x : Bool) : (if b = c then some true else some x) = some (b == c || x) := by
  by_cases h : b = c
  · rw [if_pos h, h]; simp
  · have : (b == c) = false := beq_eq_false_iff_ne.2 h
    rw [if_neg h, this, Bool.false_or]
theorem or4 (b : Int) : (if b = 2 then some true else if b = 4 then some true else if b = 6 then some true else some (b == 8)) = some (b == 2 || b == 4 || b == 6 || b == 8) := by
  rw [eq_or, eq_or, eq_or]
  simp [Bool.or_assoc]
theorem pmay (a b : Int) : ∀ k, recantref05_May.f (k + 1) a b = some (mayB a b) := by
  intro k
  unfold recantref05_May.f mayB
  by_cases h0 : a = -1
  · rw [if_pos h0, if_pos h0]
  rw [if_neg h0, if_neg h0]
  by_cases h1 : a = 0
  · rw [if_pos h1, if_pos h1, eq_or]
  rw [if_neg h1, if_neg h1]
  by_cases hodd : a = 1 ∨ a = 3 ∨ a = 5
  · have hj : (if a = 1 then recantref05_May.j0 (k + 1) b a (a == 1) else if a = 3 then recantref05_May.j0 (k + 1) b a (a == 3) else recantref05_May.j0 (k + 1) b a (a == 5)) = recantref05_May.j0 (k + 1) b a true := by
      rcases hodd with rfl | rfl | rfl <;> rfl
    rw [hj, if_pos hodd]
    simp only [recantref05_May.j0]
    rw [if_pos trivial, or4]
  have hf5 : (a == 5) = false := beq_eq_false_iff_ne.2 (fun h => hodd (.inr (.inr h)))
  rw [if_neg (show ¬ a = 1 by omega), if_neg (show ¬ a = 3 by omega), if_neg hodd, hf5]
  simp only [recantref05_May.j0]
  rw [if_neg Bool.false_ne_true]
  by_cases h6 : a = 2
  · rw [if_pos h6, if_pos h6, eq_or]
  rw [if_neg h6, if_neg h6]
  by_cases h7 : a = 4
  · rw [if_pos h7, if_pos h7, eq_or]
  rw [if_neg h7, if_neg h7]
  by_cases h8 : a = 6
  · rw [if_pos h8, if_pos h8, eq_or]
  rw [if_neg h8, if_neg h8]
  by_cases h9 : a = 8
  · rw [if_pos h9, if_pos h9]
  rw [if_neg h9, if_neg h9]
theorem take_snoc76 (l : List S36) (i : Nat) (h : i < l.length) : l.take (i + 1) = l.take i ++ [rd_T36 l (i : Int)] := by
  rw [List.take_succ_eq_append_getElem h]
  congr 2
  unfold rd_T36; rw [Int.toNat_natCast, List.getD_eq_getElem?_getD, List.getElem?_eq_getElem h]; rfl
theorem pfirst (l : List S36) (hl : l.length ≤ 1000) (d : Nat) : ∀ i : Nat, i + d = l.length → Ev (fun k => recantref05_First.l0 k l l (l.length : Int) (i : Int)) ((i + firstR (l.take i) (l.drop i) : Nat) : Int) := by
  induction d with
  | zero =>
    intro i hi
    refine ⟨1, fun k hk => ?_⟩
    obtain ⟨k, rfl⟩ : ∃ m, k = m + 1 := ⟨k - 1, by omega⟩
    simp only [recantref05_First.l0]
    rw [if_neg (by omega), show i = l.length by omega, List.drop_length]
    rfl
  | succ d ih =>
    intro i hi
    obtain ⟨K1, e1⟩ := ih (i + 1) (by omega)
    obtain ⟨K2, e2⟩ := plast_f (l.take i) (rd_T36 l (i : Int)).f1 (by rw [List.length_take]; omega)
    refine ⟨max K1 K2 + 2, fun k hk => ?_⟩
    obtain ⟨k, rfl⟩ : ∃ m, k = m + 1 + 1 := ⟨k - 2, by omega⟩
    have e1 := e1 (k + 1) (by omega)
    have e2 := e2 (k + 1) (by omega)
    dsimp only at e1 e2
    have hm := pmay (lastK (l.take i) (rd_T36 l (i : Int)).f1) (rd_T36 l (i : Int)).f0 k
    obtain ⟨q, hq⟩ : ∃ q, q = k + 1 := ⟨_, rfl⟩
    rw [← hq] at e1 e2 hm ⊢
    simp only [recantref05_First.l0]
    rw [if_pos (by omega), if_pos (by omega), if_pos (by omega), if_pos (by omega), Int.toNat_natCast, e2, Option.bind_some, hm, Option.bind_some, drop_consE l i (by omega)]
    unfold firstR
    cases mayB (lastK (l.take i) (rd_T36 l (i : Int)).f1) (rd_T36 l (i : Int)).f0 with
    | true =>
      rw [if_pos rfl, if_pos rfl, w64 (by omega) (by omega), show ((i : Int) + 1) = ((i + 1 : Nat) : Int) by omega, e1, take_snoc76 l i (by omega)]
      congr 1
      omega
    | false =>
      rw [if_neg Bool.false_ne_true, if_neg Bool.false_ne_true]
      rfl
theorem pfirst_f (l : List S36) (hl : l.length ≤ 1000) : Ev (fun k => recantref05_First.f k l) ((firstR [] l : Nat) : Int) := by
  have := pfirst l hl l.length 0 (by omega)
  rw [List.drop_zero, List.take_zero, Nat.zero_add] at this
  exact this
theorem why_ev (l : List S36) (hl : l.length ≤ 1000) : Ev (fun k => recantref05_Why.f k l) (whyB l) := by
  obtain ⟨K1, e1⟩ := prights_f l hl
  obtain ⟨K2, e2⟩ := pfirst_f l hl
  refine ⟨max K1 K2, fun k hk => ?_⟩
  have e1 := e1 k (by omega)
  have e2 := e2 k (by omega)
  dsimp only at e1 e2
  show recantref05_Why.f k l = some (whyB l)
  unfold recantref05_Why.f whyB
  rw [e1, Option.bind_some]
  cases hr : rightsB l with
  | false => rw [if_neg Bool.false_ne_true, if_neg Bool.false_ne_true]
  | true =>
    rw [if_pos rfl, if_pos rfl, e2, Option.bind_some, first_run l [] noF (fun tx => rfl) (fun tx => ⟨by show -1 ≤ (-1 : Int); omega, by show (-1 : Int) ≤ 9; omega⟩) (rights_kinds hr)]
    by_cases h : (runI noF l : Int) < l.length
    · rw [if_pos h, if_pos h]
    · rw [if_neg h, if_neg h]
theorem pasked (l : List S36) (tx : Int) (hl : l.length ≤ 1000) (d : Nat) : ∀ (i : Nat) (a : S36), i + d = l.length → Ev (fun k => recantref06_asked.l0 k tx l (l.length : Int) (i : Int) a.f0 a.f1 a.f2 a.f3) (((l.drop i).foldl (lastS tx) a).f0, ((l.drop i).foldl (lastS tx) a).f1, ((l.drop i).foldl (lastS tx) a).f2, ((l.drop i).foldl (lastS tx) a).f3) := by
  induction d with
  | zero =>
    intro i a hi
    refine ⟨1, fun k hk => ?_⟩
    obtain ⟨k, rfl⟩ : ∃ m, k = m + 1 := ⟨k - 1, by omega⟩
    simp only [recantref06_asked.l0]
    rw [if_neg (by omega), List.drop_eq_nil_of_le (by omega : l.length ≤ i)]
    rfl
  | succ d ih =>
    intro i a hi
    have hlt : i < l.length := by omega
    have hrd : rd_T36 l (i : Int) = l[i] := by unfold rd_T36; rw [Int.toNat_natCast, List.getD_eq_getElem?_getD, List.getElem?_eq_getElem hlt]; rfl
    obtain ⟨K, e⟩ := ih (i + 1) (lastS tx a l[i]) (by omega)
    refine ⟨K + 1, fun k hk => ?_⟩
    obtain ⟨k, rfl⟩ : ∃ m, k = m + 1 := ⟨k - 1, by omega⟩
    have e := e k (by omega)
    dsimp only at e
    simp only [recantref06_asked.l0]
    rw [if_pos (by omega), if_pos (by omega), if_pos (by omega), w64 (by omega) (by omega), show ((i : Int) + 1) = ((i + 1 : Nat) : Int) by omega, hrd, List.drop_eq_getElem_cons hlt, List.foldl_cons]
    rw [← e]
    unfold lastS
    by_cases h : (l[i]).f1 = tx
    · rw [if_pos h, if_pos h]
    · rw [if_neg h, if_neg h]
theorem pasked_f (l : List S36) (tx : Int) (i : Nat) (hl : l.length ≤ 1000) (hi : i ≤ l.length) : Ev (fun k => recantref06_asked.f k l (i : Int) tx) ((lastE (l.take i) tx).f0, (lastE (l.take i) tx).f1, (lastE (l.take i) tx).f2, (lastE (l.take i) tx).f3) := by
  obtain ⟨K, e⟩ := pasked (l.take i) tx (by rw [List.length_take]; omega) (l.take i).length 0 z0 (by omega)
  refine ⟨K, fun k hk => ?_⟩
  have e := e k hk
  show recantref06_asked.f k l (i : Int) tx = _
  unfold recantref06_asked.f
  rw [if_pos (by omega), if_pos (by omega), Option.bind_some, Int.toNat_natCast]
  exact e
theorem pops (l : List S36) (tx : Int) (hl : l.length ≤ 1000) (d : Nat) : ∀ (i : Nat) (acc : List S52), i + d = l.length → acc.length ≤ i → Ev (fun k => recantref06_Ops.l0 k l tx acc l (l.length : Int) (i : Int)) (acc ++ opsR (l.take i) (l.drop i) tx) := by
  induction d with
  | zero =>
    intro i acc hi ha
    refine ⟨1, fun k hk => ?_⟩
    obtain ⟨k, rfl⟩ : ∃ m, k = m + 1 := ⟨k - 1, by omega⟩
    simp only [recantref06_Ops.l0]
    rw [if_neg (by omega), List.drop_eq_nil_of_le (by omega : l.length ≤ i)]
    show some acc = some (acc ++ [])
    rw [List.append_nil]
  | succ d ih =>
    intro i acc hi ha
    have hlt : i < l.length := by omega
    have hrd : rd_T36 l (i : Int) = l[i] := by unfold rd_T36; rw [Int.toNat_natCast, List.getD_eq_getElem?_getD, List.getElem?_eq_getElem hlt]; rfl
    have hs : opsR (l.take i) (l.drop i) tx = (if (l[i]).f1 = tx then opsS (lastE (l.take i) tx) l[i] else []) ++ opsR (l.take (i + 1)) (l.drop (i + 1)) tx := by
      rw [List.drop_eq_getElem_cons hlt, List.take_succ_eq_append_getElem hlt]
      rfl
    obtain ⟨x, hx⟩ : ∃ x, x = (if (l[i]).f1 = tx then opsS (lastE (l.take i) tx) l[i] else []) := ⟨_, rfl⟩
    have hxl : x.length ≤ 1 := by
      rw [hx]
      split
      · exact opsS_len _ _
      · exact Nat.zero_le _
    obtain ⟨K, e⟩ := ih (i + 1) (acc ++ x) (by omega) (by rw [List.length_append]; omega)
    obtain ⟨K1, e1⟩ := pasked_f l tx i hl (by omega)
    refine ⟨max K K1 + 1, fun k hk => ?_⟩
    obtain ⟨k, rfl⟩ : ∃ m, k = m + 1 := ⟨k - 1, by omega⟩
    have e := e k (by omega)
    have e1 := e1 k (by omega)
    dsimp only at e e1
    simp only [recantref06_Ops.l0]
    rw [hs, ← hx, ← List.append_assoc, ← e, if_pos (by omega), if_pos (by omega), if_pos (by omega), w64 (by omega) (by omega), show ((i : Int) + 1) = ((i + 1 : Nat) : Int) by omega, hrd]
    by_cases h : (l[i]).f1 = tx
    · rw [if_pos h] at hx
      rw [if_pos h, e1, Option.bind_some]
      dsimp only
      unfold opsS at hx
      by_cases h3 : (l[i]).f0 = 3
      · rw [if_pos h3] at hx
        rw [if_pos h3, if_pos (by omega), Option.bind_some, if_neg (by omega), hx]
      · rw [if_neg h3] at hx
        rw [if_neg h3]
        by_cases h5 : (l[i]).f0 = 5
        · rw [if_pos h5] at hx
          rw [if_pos h5, if_pos (by omega), hx]
        · rw [if_neg h5] at hx
          rw [if_neg h5, hx, List.append_nil]
    · rw [if_neg h] at hx
      rw [if_neg h, hx, List.append_nil]
theorem pops_f (l : List S36) (tx : Int) (hl : l.length ≤ 1000) : Ev (fun k => recantref06_Ops.f k l tx) (opsR [] l tx) := pops l tx hl l.length 0 [] (by omega) (Nat.le_refl _)
theorem pstate (a : Int) : recantref06_state.f a = some (stF a) := by
  unfold recantref06_state.f stF
  by_cases h7 : a = 7
  · rw [if_pos h7, if_neg (by omega), if_pos h7]
  · rw [if_neg h7]
    by_cases h9 : a = 9
    · rw [if_pos h9, if_neg (by omega), if_neg h7, if_pos h9]
    · rw [if_neg h9]
      by_cases h6 : a = 6
      · rw [if_pos h6, if_pos h6]
      · rw [if_neg h6, if_neg h6, if_neg h7, if_neg h9]
theorem ptable1 (l : List S36) (hl : l.length ≤ 1000) (acc : List S34) (n : Int) (names : List Int) (j : Int) (st : Int) (ops : List S52) (hacc : acc.length ≤ 1000) (R : List S34) (d : Nat) :
    ∀ (i : Nat) (f g : Int), i + d = l.length → Ev (fun k => recantref06_Table.l0 k l (acc ++ [⟨n, (flF i (l.drop i) n (f, g)).1, (flF i (l.drop i) n (f, g)).2, st, ops⟩]) names (names.length : Int) (wrap64 (j + 1))) R → Ev (fun k => recantref06_Table.l1 k l acc n names (names.length : Int) j l (l.length : Int) (i : Int) n f g st ops) R := by
  induction d with
  | zero =>
    rintro i f g hi ⟨K, e⟩
    refine ⟨K + 1, fun k hk => ?_⟩
    obtain ⟨k, rfl⟩ : ∃ m, k = m + 1 := ⟨k - 1, by omega⟩
    have e := e k (by omega)
    rw [List.drop_eq_nil_of_le (by omega : l.length ≤ i)] at e
    simp only [recantref06_Table.l1]
    rw [if_neg (by omega), if_pos (by omega)]
    exact e
  | succ d ih =>
    intro i f g hi hE
    have hlt : i < l.length := by omega
    have hrd : rd_T36 l (i : Int) = l[i] := by unfold rd_T36; rw [Int.toNat_natCast, List.getD_eq_getElem?_getD, List.getElem?_eq_getElem hlt]; rfl
    rw [List.drop_eq_getElem_cons hlt] at hE
    have hE2 : Ev (fun k => recantref06_Table.l0 k l (acc ++ [⟨n, (flF (i + 1) (l.drop (i + 1)) n (flS (i : Int) l[i] n (f, g))).1, (flF (i + 1) (l.drop (i + 1)) n (flS (i : Int) l[i] n (f, g))).2, st, ops⟩]) names (names.length : Int) (wrap64 (j + 1))) R := hE
    obtain ⟨K, e⟩ := ih (i + 1) (flS (i : Int) l[i] n (f, g)).1 (flS (i : Int) l[i] n (f, g)).2 (by omega) hE2
    refine ⟨K + 1, fun k hk => ?_⟩
    obtain ⟨k, rfl⟩ : ∃ m, k = m + 1 := ⟨k - 1, by omega⟩
    have e := e k (by omega)
    dsimp only at e
    simp only [recantref06_Table.l1]
    rw [if_pos (by omega), if_pos (by omega), if_pos (by omega), w64 (by omega) (by omega), show ((i : Int) + 1) = ((i + 1 : Nat) : Int) by omega, hrd, ← e]
    unfold flS
    by_cases h : (l[i]).f1 = n
    · rw [if_pos h, if_pos h]
      by_cases hf : f < 0
      · rw [if_pos hf, if_pos hf]
      · rw [if_neg hf, if_neg hf]
    · rw [if_neg h, if_neg h]
theorem ptable0 (l : List S36) (hl : l.length ≤ 1000) (names : List Int) (hn : names.length ≤ 1000) (d : Nat) : ∀ (j : Nat) (acc : List S34), j + d = names.length → acc.length ≤ j → Ev (fun k => recantref06_Table.l0 k l acc names (names.length : Int) (j : Int)) (acc ++ (names.drop j).map (fun n => txnK (refK l n))) := by
  induction d with
  | zero =>
    intro j acc hj ha
    refine ⟨1, fun k hk => ?_⟩
    obtain ⟨k, rfl⟩ : ∃ m, k = m + 1 := ⟨k - 1, by omega⟩
    simp only [recantref06_Table.l0]
    rw [if_neg (by omega), List.drop_eq_nil_of_le (by omega : names.length ≤ j)]
    show some acc = some (acc ++ [])
    rw [List.append_nil]
  | succ d ih =>
    intro j acc hj ha
    have hlt : j < names.length := by omega
    have hrd : rd names (j : Int) = names[j] := by unfold rd; rw [Int.toNat_natCast, List.getD_eq_getElem?_getD, List.getElem?_eq_getElem hlt]; rfl
    have h0 := ih (j + 1) (acc ++ [txnK (refK l names[j])]) (by omega) (by rw [List.length_append]; simp; omega)
    have h1 := ptable1 l hl acc names[j] names (j : Int) (stF (lastK l names[j])) (opsR [] l names[j]) (by omega) (acc ++ (names.drop j).map (fun n => txnK (refK l n))) l.length 0 (-1) 0 (by omega) (by
      rw [w64 (by omega) (by omega), show ((j : Int) + 1) = ((j + 1 : Nat) : Int) by omega, List.drop_eq_getElem_cons hlt, List.map_cons]
      rw [List.append_assoc] at h0
      exact h0)
    obtain ⟨K1, e1⟩ := h1
    obtain ⟨K2, e2⟩ := plast_f l names[j] hl
    obtain ⟨K3, e3⟩ := pops_f l names[j] hl
    refine ⟨max K1 (max K2 K3) + 1, fun k hk => ?_⟩
    obtain ⟨k, rfl⟩ : ∃ m, k = m + 1 := ⟨k - 1, by omega⟩
    have e1 := e1 k (by omega)
    have e2 := e2 k (by omega)
    have e3 := e3 k (by omega)
    dsimp only at e1 e2 e3
    simp only [recantref06_Table.l0]
    rw [if_pos (by omega), if_pos (by omega), if_pos (by omega), hrd, e2, Option.bind_some, pstate, Option.bind_some, e3, Option.bind_some]
    exact e1
theorem ptable_f (l : List S36) (hl : l.length ≤ 1000) : Ev (fun k => recantref06_Table.f k l) ((namesF l).map (fun n => txnK (refK l n))) := by
  have hn := names_len l
  obtain ⟨K1, e1⟩ := pnames_f l hl
  obtain ⟨K2, e2⟩ := ptable0 l hl (namesF l) (by omega) (namesF l).length 0 [] (by omega) (Nat.le_refl _)
  refine ⟨max K1 K2, fun k hk => ?_⟩
  have e1 := e1 k (by omega)
  have e2 := e2 k (by omega)
  dsimp only at e1 e2
  show recantref06_Table.f k l = _
  unfold recantref06_Table.f
  rw [e1, Option.bind_some]
  exact e2
end Go.Proofs.YtkjkceeopkfniaaDoor.U

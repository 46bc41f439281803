/- Proved: in the transactions of any events every name is there once, the first events rise, a transaction has as many operations as answers; up to a place the row is shorter and begins as the whole's. Condition: the program's table of kinds lies in memory as its text lays it (the card ties that to the text). -/
import Derived.Test.YtkjkceeopkfniaaDoorUGrows
import Derived.Test.YtkjkceeopkfniaaDoorGGrows
namespace Go.Proofs.YtkjkceeopkfniaaDoor.Pure
set_option linter.unusedVariables false
set_option linter.unusedSimpArgs false
open Go Go.RowKit Go.Proofs.YtkjkceeopkfniaaDoor.P Go.Proofs.YtkjkceeopkfniaaDoorW.PrintWords Go.Proofs.YtkjkceeopkfniaaDoorW.PrintLast Go.Proofs.YtkjkceeopkfniaaDoorW.PrintMore Go.Proofs.YtkjkceeopkfniaaDoor.U

theorem alive06 : recantlaw06_alive.f = some true := by decide +kernel
theorem same_self (s : List S52) (hs : s.length ≤ 100) (d : Nat) : ∀ (i k : Nat), i + d = s.length → d + 1 ≤ k → recantref06_OpsSame.l0 k s s (s.length : Int) (i : Int) = some true := by
  induction d with
  | zero =>
    intro i k hi hk
    obtain ⟨k, rfl⟩ : ∃ m, k = m + 1 := ⟨k - 1, by omega⟩
    simp only [recantref06_OpsSame.l0]
    rw [if_neg (by omega)]
  | succ d ih =>
    intro i k hi hk
    obtain ⟨k, rfl⟩ : ∃ m, k = m + 1 := ⟨k - 1, by omega⟩
    have e := ih (i + 1) k (by omega) (by omega)
    simp only [recantref06_OpsSame.l0]
    rw [if_pos (by omega), if_pos (by omega), if_pos (by omega), if_pos (by omega), w64 (by omega) (by omega), show ((i : Int) + 1) = ((i + 1 : Nat) : Int) by omega, e]
    simp
theorem same_self_f (s : List S52) (hs : s.length ≤ 99) : recantref06_OpsSame.f 100 s s = some true := by
  unfold recantref06_OpsSame.f
  rw [if_pos (by omega)]
  exact same_self s (by omega) s.length 0 100 (by omega) (by omega)
theorem idx_nod (g : Int → S34) (hg : ∀ n, (g n).f0 = n) : ∀ (ns : List Int) (j i : Nat) (h : i < ns.length), ns.Nodup → idxQ (isN ns[i]) (ns.map g) j = ((j + i : Nat) : Int)
  | [], _, _, h, _ => absurd h (Nat.not_lt_zero _)
  | n :: ns, j, 0, _, _ => by
    show (if ((g n).f0 == n) = true then ((j : Nat) : Int) else _) = _
    rw [hg, if_pos (by simp)]
    rfl
  | n :: ns, j, i + 1, h, hn => by
    have hi : i < ns.length := by simpa using h
    rw [List.nodup_cons] at hn
    have hne : ¬ ((g n).f0 == ns[i]) = true := by
      rw [hg]
      intro q
      have q := eq_of_beq q
      exact hn.1 (q ▸ List.getElem_mem hi)
    show (if ((g n).f0 == ns[i]) = true then ((j : Nat) : Int) else idxQ (isN ns[i]) (ns.map g) (j + 1)) = _
    rw [if_neg hne, idx_nod g hg ns (j + 1) i hi hn.2]
    congr 1
    omega
theorem tab_ok {b : List S36} {l : List S34} (h : table_Table.f b = some (l, 0)) : whyB b = 0 ∧ l = tabT b := by
  rw [why_table b] at h
  by_cases h0 : whyB b = 0
  · rw [if_pos h0] at h
    exact ⟨h0, (congrArg Prod.fst (Option.some.inj h)).symm⟩
  · rw [if_neg h0] at h
    exact absurd (congrArg Prod.snd (Option.some.inj h)) h0
theorem grows (b : List S36) (hb : b.length ≤ 65) : GrowsH 100 b := by
  refine ⟨alive06, ?_, ?_, ?_⟩
  · intro l e h he
    rw [why_table b] at h
    by_cases h0 : whyB b = 0
    · rw [if_pos h0] at h
      exact absurd (congrArg Prod.snd (Option.some.inj h)).symm he
    · rw [if_neg h0] at h
      exact (congrArg Prod.fst (Option.some.inj h)).symm
  · intro l h i hi
    obtain ⟨h0, rfl⟩ := tab_ok h
    rw [tab_len h0] at hi
    have hrd := tab_rd h0 i hi
    have hm : (namesF b)[i] ∈ namesF b := List.getElem_mem hi
    have hfl := fl_bound b _ hm
    refine ⟨?_, ?_, ?_, ?_⟩
    · rw [hrd]
      show ((cntA b (namesF b)[i] : Nat) : Int) = ((opsR [] b (namesF b)[i]).length : Int)
      rw [ops_cnt]
    · rw [hrd, tab_doc h0]
      show idxQ (isN (namesF b)[i]) _ 0 = (i : Int)
      rw [idx_nod (fun n => txnK (refK b n)) (fun _ => rfl) (namesF b) 0 i hi (names_nod b), Nat.zero_add]
    · intro h1
      have hi1 : i - 1 < (namesF b).length := by omega
      have hr1 := tab_rd h0 (i - 1) hi1
      rw [show ((i - 1 : Nat) : Int) = (i : Int) - 1 by omega] at hr1
      rw [hrd, hr1]
      exact List.pairwise_iff_getElem.1 (fl_rise b) (i - 1) i hi1 hi (by omega)
    · rw [hrd]
      exact hfl.2.1
  · intro l n h hn
    obtain ⟨h0, rfl⟩ := tab_ok h
    have h1 := why_take h0 n
    obtain ⟨p, hp⟩ : ∃ p, p = b.take n := ⟨_, rfl⟩
    obtain ⟨t, ht⟩ : ∃ t, t = b.drop n := ⟨_, rfl⟩
    have hpt : b = p ++ t := by rw [hp, ht, List.take_append_drop]
    rw [← hp] at h1 ⊢
    have hpl : p.length ≤ 65 := by rw [hp, List.length_take]; omega
    clear hp ht h hn
    subst hpt
    obtain ⟨s, hs⟩ := names_pre p t
    refine ⟨tabT p, by rw [why_table p, if_pos h1], by rw [tab_len h1, tab_len h0, hs, List.length_append]; omega, ?_⟩
    intro i hi
    rw [tab_len h1] at hi
    have hi2 : i < (namesF (p ++ t)).length := by rw [hs, List.length_append]; omega
    have hne : (namesF (p ++ t))[i] = (namesF p)[i] := by
      have : (namesF (p ++ t))[i]? = (namesF p)[i]? := by rw [hs, List.getElem?_append_left hi]
      rw [List.getElem?_eq_getElem hi2, List.getElem?_eq_getElem hi] at this
      exact Option.some.inj this
    have hr1 := tab_rd h1 i hi
    have hr2 := tab_rd h0 i hi2
    rw [hne] at hr2
    have hm : (namesF p)[i] ∈ namesF p := List.getElem_mem hi
    obtain ⟨q1, q2, s2, q3⟩ := ref_pre p t _ hm
    have hol := opsR_len p (namesF p)[i] []
    constructor
    · rw [hr1, hr2]; rfl
    · rw [hr1, hr2]; exact q1.symm
    · rw [hr1, hr2]; exact q2
    · rw [hr1, hr2]
      show (opsR [] p (namesF p)[i]).length ≤ (opsR [] (p ++ t) (namesF p)[i]).length
      rw [q3, List.length_append]; omega
    · rw [hr1, hr2]
      show recantref06_OpsSame.f 100 (opsR [] p (namesF p)[i]) ((opsR [] (p ++ t) (namesF p)[i]).take (opsR [] p (namesF p)[i]).length) = some true
      rw [q3, List.take_left']
      · exact same_self_f _ (by omega)
      · rfl
theorem TableGrows (l : List S36) (hl : l.length ≤ 9223372036854775807) (a : Int) (w : (Lit.int .i64 a).wf = true) : ∃ k, recantlaw06_TableGrows.f k l a ∧ true = true :=
  ⟨100, grows _ (by rw [List.length_take]; omega), rfl⟩
end Go.Proofs.YtkjkceeopkfniaaDoor.Pure

/- Proved: events are alike with themselves, the other way round, and through third ones; what is alike with what is well formed is so; all transactions' events together are all. Condition: the program's table of kinds lies in memory as its text lays it (the card ties that to the text). -/
import Derived.Test.YtkjkceeopkfniaaDoorUAlikeB
import Derived.Test.YtkjkceeopkfniaaDoorGNames
import Derived.Test.YtkjkceeopkfniaaDoorUNum
import Derived.Test.YtkjkceeopkfniaaDoorP3
namespace Go.Proofs.YtkjkceeopkfniaaDoor.Pure
set_option linter.unusedVariables false
set_option linter.unusedSimpArgs false
open Go Go.RowKit Go.Proofs.YtkjkceeopkfniaaDoor.P Go.Proofs.YtkjkceeopkfniaaDoorW.PrintWords Go.Proofs.YtkjkceeopkfniaaDoorW.PrintLast Go.Proofs.YtkjkceeopkfniaaDoorW.PrintMore Go.Proofs.YtkjkceeopkfniaaDoor.U

theorem alive08 : recantlaw08_alive.f = some true := by decide +kernel
theorem contains_ev (l : List Int) (a : Int) (hl : l.length < 1000000) : Ev (fun k => slices_Contains_int_int.f k l a) (l.contains a) := Ev.of (fun k => slices_Contains_int_int.mono _ _ k) (contains_run l a hl)
theorem sum_snoc (a : List S36) (L : List Int) (n : Int) : sumN a (L ++ [n]) = sumN a L + (ofL a n).length := by
  unfold sumN
  rw [List.map_append, List.sum_append]
  simp
theorem of_len (a : List S36) (n : Int) : (ofL a n).length ≤ a.length := List.length_filter_le _ _
theorem sum_le (a : List S36) (L : List Int) : sumN a L ≤ L.length * a.length := by
  induction L with
  | nil => exact Nat.zero_le _
  | cons n L ih =>
    show (ofL a n).length + sumN a L ≤ (L.length + 1) * a.length
    have := of_len a n
    rw [Nat.add_mul]
    omega
theorem all_run (a : List S36) (ha : a.length ≤ 1000) (d : Nat) : ∀ i : Nat, i + d = a.length → Ev (fun k => recantlaw08_PrefixHolds.l0 k a (namesF (a.take i)) ((sumN a (namesF (a.take i)) : Nat) : Int) a (a.length : Int) (i : Int)) true := by
  induction d with
  | zero =>
    intro i hi
    refine ⟨1, fun k hk => ?_⟩
    obtain ⟨k, rfl⟩ : ∃ m, k = m + 1 := ⟨k - 1, by omega⟩
    simp only [recantlaw08_PrefixHolds.l0]
    have hs := sum_all (namesF a) a (names_nodup a) (fun e he => (names_mem a _).2 ⟨e, he, rfl⟩)
    rw [if_neg (by omega), show i = a.length by omega, List.take_length, hs]
    simp
  | succ d ih =>
    intro i hi
    obtain ⟨K1, e1⟩ := ih (i + 1) (by omega)
    have hnl := names_len (a.take i)
    rw [List.length_take] at hnl
    obtain ⟨K2, e2⟩ := contains_ev (namesF (a.take i)) (rd_T36 a (i : Int)).f1 (by omega)
    refine ⟨max K1 K2 + 1, fun k hk => ?_⟩
    obtain ⟨k, rfl⟩ : ∃ m, k = m + 1 := ⟨k - 1, by omega⟩
    have e1 := e1 k (by omega)
    have e2 := e2 k (by omega)
    rw [take_snocE a i (by omega), names_snoc] at e1
    dsimp only at e1 e2
    simp only [recantlaw08_PrefixHolds.l0]
    rw [if_pos (by omega), if_pos (by omega), if_pos (by omega), e2, Option.bind_some, w64 (x := (i : Int) + 1) (by omega) (by omega), show ((i : Int) + 1) = ((i + 1 : Nat) : Int) by omega]
    unfold addN at e1
    by_cases hc : (namesF (a.take i)).contains (rd_T36 a (i : Int)).f1 = true
    · rw [if_pos hc]
      rw [if_pos hc] at e1
      exact e1
    · rw [if_neg hc, if_pos (by omega)]
      rw [if_neg hc, sum_snoc] at e1
      have hof : prefix_Of.f a (rd_T36 a (i : Int)).f1 = some (ofL a (rd_T36 a (i : Int)).f1) := by unfold prefix_Of.f; rw [if_pos (by omega)]
      have h1 := sum_le a (namesF (a.take i))
      have h2 := of_len a (rd_T36 a (i : Int)).f1
      have h3 : (namesF (a.take i)).length * a.length ≤ 1000 * 1000 := Nat.mul_le_mul (by omega) ha
      rw [hof, Option.bind_some, w64 (by omega) (by omega), show ((sumN a (namesF (a.take i)) : Nat) : Int) + ((ofL a (rd_T36 a (i : Int)).f1).length : Int) = ((sumN a (namesF (a.take i)) + (ofL a (rd_T36 a (i : Int)).f1).length : Nat) : Int) by omega]
      exact e1
theorem PrefixHolds (l0 : List S36) (h0 : l0.length ≤ 9223372036854775807) (l1 : List S36) (h1 : l1.length ≤ 9223372036854775807) (l2 : List S36) (h2 : l2.length ≤ 9223372036854775807) : ∃ k, recantlaw08_PrefixHolds.f k l0 l1 l2 = some true := by
  have hmn : ∀ l : List S36, (mn (l.length : Int) 65).toNat ≤ 65 ∧ 0 ≤ mn (l.length : Int) 65 ∧ mn (l.length : Int) 65 ≤ l.length := by intro l; unfold mn; split <;> omega
  obtain ⟨a, ha⟩ : ∃ b, b = l0.take (mn (l0.length : Int) 65).toNat := ⟨_, rfl⟩
  obtain ⟨b, hb⟩ : ∃ b, b = l1.take (mn (l1.length : Int) 65).toNat := ⟨_, rfl⟩
  obtain ⟨c, hc⟩ : ∃ b, b = l2.take (mn (l2.length : Int) 65).toNat := ⟨_, rfl⟩
  have hal : a.length ≤ 1000 := by rw [ha, List.length_take]; have := hmn l0; omega
  have hbl : b.length ≤ 1000 := by rw [hb, List.length_take]; have := hmn l1; omega
  have hcl : c.length ≤ 1000 := by rw [hc, List.length_take]; have := hmn l2; omega
  have hA : ∀ x y : List S36, x.length ≤ 1000 → y.length ≤ 1000 → prefix_Alike.f x y = some (alikeB x y) := fun x y hx hy => by unfold prefix_Alike.f; rw [if_pos ⟨hx, hy⟩]
  have haa : alikeB a a = true := (alike_iff a a).2 (fun _ => rfl)
  have hsym : alikeB b a = alikeB a b := by
    rw [Bool.eq_iff_iff, alike_iff, alike_iff]
    exact ⟨fun h n => (h n).symm, fun h n => (h n).symm⟩
  obtain ⟨K, e⟩ := all_run a hal a.length 0 (by omega)
  rw [List.take_zero] at e
  have hj1 : ∀ k, K ≤ k → recantlaw08_PrefixHolds.j1 (k + 1) a false = some true := by
    intro k hk
    have e := e k hk
    simp only [recantlaw08_PrefixHolds.j1]
    rw [if_neg Bool.false_ne_true]
    exact e
  have hj0 : ∀ k, K ≤ k → recantlaw08_PrefixHolds.j0 (k + 1 + 1) a b (alikeB a b) false = some true := by
    intro k hk
    have e := hj1 k hk
    obtain ⟨q, hq⟩ : ∃ q, q = k + 1 := ⟨_, rfl⟩
    rw [← hq] at e ⊢
    simp only [recantlaw08_PrefixHolds.j0]
    rw [if_neg Bool.false_ne_true]
    unfold proper_Check.f
    rw [Option.bind_some, Option.bind_some]
    cases hab : alikeB a b with
    | false => rw [if_neg Bool.false_ne_true]; exact e
    | true =>
      rw [if_pos rfl]
      have hP := (alike_iff a b).1 hab
      cases hr : rightsB a with
      | false =>
        rw [if_neg Bool.false_ne_true, if_neg (by decide)]
        exact e
      | true =>
        rw [if_pos rfl]
        by_cases hlt : (runI noF a : Int) < a.length
        · rw [if_pos hlt, if_neg (show ¬ (6 : Int) = 0 by decide)]
          exact e
        · have hle := runI_le a noF
          obtain ⟨p1, p2⟩ := alike_proper hP hr (by omega)
          rw [if_neg hlt, if_pos rfl, p1, if_pos rfl, if_neg (by omega)]
          exact e
  refine ⟨K + 1 + 1, ?_⟩
  have e := hj0 K (Nat.le_refl _)
  unfold recantlaw08_PrefixHolds.f
  rw [if_pos (hmn l0).2.1, if_pos (hmn l0).2.2, ← ha, Option.bind_some, if_pos (hmn l1).2.1, if_pos (hmn l1).2.2, ← hb, Option.bind_some, if_pos (hmn l2).2.1, if_pos (hmn l2).2.2, ← hc, Option.bind_some, hA a b hal hbl, Option.bind_some, hA a a hal hal, Option.bind_some, haa, if_pos rfl, hA b a hbl hal, Option.bind_some, hsym, alive08]
  have hneq : ¬ ((alikeB a b != alikeB a b) = true) := by simp
  rw [if_neg hneq]
  by_cases hab : alikeB a b = true
  · have hP := (alike_iff a b).1 hab
    have hlen := alike_len a.length a b (Nat.le_refl _) hP
    rw [if_pos hab, hA b c hbl hcl, Option.bind_some]
    by_cases hbc : alikeB b c = true
    · have hac : alikeB a c = true := (alike_iff a c).2 (fun n => (hP n).trans ((alike_iff b c).1 hbc n))
      rw [if_pos hbc, hA a c hal hcl, Option.bind_some, if_pos hac, if_pos (by omega), Option.bind_some]
      exact e
    · rw [if_neg hbc, if_pos (by omega), Option.bind_some]
      exact e
  · rw [if_neg hab, Option.bind_some]
    exact e
end Go.Proofs.YtkjkceeopkfniaaDoor.Pure

/- Proved: the first events, a transaction's, and whether two rows are alike, is as the document says, or refused. Condition: the program's table of kinds lies in memory as its text lays it (the card ties that to the text). -/
import Derived.Test.YtkjkceeopkfniaaDoorUAlikeB
import Derived.Test.YtkjkceeopkfniaaDoorURefN
import Derived.Test.YtkjkceeopkfniaaDoorGNames
import Derived.Test.YtkjkceeopkfniaaDoorUNum
import Derived.Test.YtkjkceeopkfniaaDoorGCuts
import Derived.Test.YtkjkceeopkfniaaDoorP4
namespace Go.Proofs.YtkjkceeopkfniaaDoor.Pure
set_option linter.unusedVariables false
set_option linter.unusedSimpArgs false
open Go Go.RowKit Go.Proofs.YtkjkceeopkfniaaDoor.P Go.Proofs.YtkjkceeopkfniaaDoorW.PrintWords Go.Proofs.YtkjkceeopkfniaaDoorW.PrintLast Go.Proofs.YtkjkceeopkfniaaDoorW.PrintMore Go.Proofs.YtkjkceeopkfniaaDoor.U

theorem alive08 : recantlaw08_alive.f = some true := by decide +kernel
theorem pof (l : List S36) (tx : Int) (hl : l.length ≤ 1000) (d : Nat) : ∀ i : Nat, i + d = l.length → Ev (fun k => recantref08_Of.l0 k tx (ofL (l.take i) tx) l (l.length : Int) (i : Int)) (ofL l tx) := by
  induction d with
  | zero =>
    intro i hi
    refine ⟨1, fun k hk => ?_⟩
    obtain ⟨k, rfl⟩ : ∃ m, k = m + 1 := ⟨k - 1, by omega⟩
    simp only [recantref08_Of.l0]
    rw [if_neg (by omega), show i = l.length by omega, List.take_length]
  | succ d ih =>
    intro i hi
    obtain ⟨K, e⟩ := ih (i + 1) (by omega)
    refine ⟨K + 1, fun k hk => ?_⟩
    obtain ⟨k, rfl⟩ : ∃ m, k = m + 1 := ⟨k - 1, by omega⟩
    have e := e k (by omega)
    dsimp only at e
    have hlt : i < l.length := by omega
    have hle : (ofL (l.take i) tx).length ≤ 1000 := by
      have : (ofL (l.take i) tx).length ≤ (l.take i).length := List.length_filter_le _ _
      rw [List.length_take] at this
      omega
    have hfs : ofL (l.take (i + 1)) tx = ofL (l.take i) tx ++ (if keepE tx l[i] then [l[i]] else []) := filter_snoc (keepE tx) l i hlt
    rw [hfs] at e
    have hrd := rd_at l i hlt
    simp only [recantref08_Of.l0]
    rw [if_pos (by omega), if_pos (by omega), if_pos (by omega), w64 (by omega) (by omega), show ((i : Int) + 1) = ((i + 1 : Nat) : Int) by omega, hrd]
    by_cases h : (l[i]).f1 = tx
    · rw [if_pos h, if_pos (by omega)]
      rw [if_pos ((keepE_iff tx _).2 h)] at e
      exact e
    · rw [if_neg h]
      rw [if_neg (fun q => h ((keepE_iff tx _).1 q)), List.append_nil] at e
      exact e
theorem pof_f (l : List S36) (tx : Int) (hl : l.length ≤ 1000) : Ev (fun k => recantref08_Of.f k l tx) (ofL l tx) := pof l tx hl l.length 0 (by omega)
theorem psame (s t : List S36) (hs : s.length ≤ 1000) (hl : s.length = t.length) (d : Nat) : ∀ i : Nat, i + d = s.length → Ev (fun k => recantref02_Same.l0 k s t (s.length : Int) (i : Int)) (eqL (s.drop i) (t.drop i)) := by
  induction d with
  | zero =>
    intro i hi
    refine ⟨1, fun k hk => ?_⟩
    obtain ⟨k, rfl⟩ : ∃ m, k = m + 1 := ⟨k - 1, by omega⟩
    simp only [recantref02_Same.l0]
    rw [if_neg (by omega), List.drop_eq_nil_of_le (by omega : s.length ≤ i), List.drop_eq_nil_of_le (by omega : t.length ≤ i)]
    rfl
  | succ d ih =>
    intro i hi
    obtain ⟨K, e⟩ := ih (i + 1) (by omega)
    refine ⟨K + 1, fun k hk => ?_⟩
    obtain ⟨k, rfl⟩ : ∃ m, k = m + 1 := ⟨k - 1, by omega⟩
    have e := e k (by omega)
    dsimp only at e
    simp only [recantref02_Same.l0]
    rw [if_pos (by omega), if_pos (by omega), if_pos (by omega), if_pos (by omega), w64 (by omega) (by omega), show ((i : Int) + 1) = ((i + 1 : Nat) : Int) by omega, e, eqL_drop s t i (by omega) (by omega)]
    have hb : (!((rd_T36 s (i : Int)).f0 == (rd_T36 t (i : Int)).f0) || (!((rd_T36 s (i : Int)).f1 == (rd_T36 t (i : Int)).f1) || (!((rd_T36 s (i : Int)).f2 == (rd_T36 t (i : Int)).f2) || (!((rd_T36 s (i : Int)).f3 == (rd_T36 t (i : Int)).f3))))) = !eqE (rd_T36 s (i : Int)) (rd_T36 t (i : Int)) := by
      unfold eqE
      simp [Bool.not_and]
    rw [hb]
    cases eqE (rd_T36 s (i : Int)) (rd_T36 t (i : Int)) with
    | true => rw [if_neg (by simp)]; simp
    | false => rw [if_pos (by simp)]; simp
theorem psame_f (s t : List S36) (hs : s.length ≤ 1000) : Ev (fun k => recantref02_Same.f k s t) (eqL s t) := by
  by_cases hl : s.length = t.length
  · obtain ⟨K, e⟩ := psame s t hs hl s.length 0 (by omega)
    refine ⟨K, fun k hk => ?_⟩
    have e := e k hk
    show recantref02_Same.f k s t = some (eqL s t)
    unfold recantref02_Same.f
    rw [if_pos (by omega)]
    exact e
  · refine ⟨0, fun k _ => ?_⟩
    show recantref02_Same.f k s t = some (eqL s t)
    unfold recantref02_Same.f
    rw [if_neg (by omega), eqL_len hl]
theorem palike (a b : List S36) (ha : a.length ≤ 1000) (hb : b.length ≤ 1000) (d : Nat) : ∀ i : Nat, i + d = (namesF a).length → Ev (fun k => recantref08_Alike.l0 k a b (namesF a) ((namesF a).length : Int) (i : Int)) (((namesF a).drop i).all (fun n => eqL (ofL a n) (ofL b n)) && decide (a.length = b.length)) := by
  have hnl := names_len a
  induction d with
  | zero =>
    intro i hi
    refine ⟨1, fun k hk => ?_⟩
    obtain ⟨k, rfl⟩ : ∃ m, k = m + 1 := ⟨k - 1, by omega⟩
    simp only [recantref08_Alike.l0]
    rw [if_neg (by omega), show i = (namesF a).length by omega, List.drop_length]
    by_cases h : a.length = b.length
    · simp [h]
    · have : ((a.length : Int) == (b.length : Int)) = false := beq_eq_false_iff_ne.2 (by omega)
      rw [this, decide_eq_false h]
      rfl
  | succ d ih =>
    intro i hi
    have hlt : i < (namesF a).length := by omega
    have hrd : rd (namesF a) (i : Int) = (namesF a)[i] := by unfold rd; rw [Int.toNat_natCast, List.getD_eq_getElem?_getD, List.getElem?_eq_getElem hlt]; rfl
    have h1000 : (ofL a (namesF a)[i]).length ≤ 1000 := Nat.le_trans (List.length_filter_le _ _) ha
    obtain ⟨K, e⟩ := ih (i + 1) (by omega)
    obtain ⟨K1, e1⟩ := pof_f a (namesF a)[i] ha
    obtain ⟨K2, e2⟩ := pof_f b (namesF a)[i] hb
    obtain ⟨K3, e3⟩ := psame_f (ofL a (namesF a)[i]) (ofL b (namesF a)[i]) h1000
    refine ⟨max K (max K1 (max K2 K3)) + 1, fun k hk => ?_⟩
    obtain ⟨k, rfl⟩ : ∃ m, k = m + 1 := ⟨k - 1, by omega⟩
    have e := e k (by omega)
    have e1 := e1 k (by omega)
    have e2 := e2 k (by omega)
    have e3 := e3 k (by omega)
    dsimp only at e e1 e2 e3
    simp only [recantref08_Alike.l0]
    rw [if_pos (by omega), if_pos (by omega), if_pos (by omega), hrd, e1, Option.bind_some, e2, Option.bind_some, e3, Option.bind_some, w64 (by omega) (by omega), show ((i : Int) + 1) = ((i + 1 : Nat) : Int) by omega, e, List.drop_eq_getElem_cons hlt, List.all_cons]
    cases eqL (ofL a (namesF a)[i]) (ofL b (namesF a)[i]) with
    | true => rw [if_pos rfl]; simp
    | false => rw [if_neg Bool.false_ne_true]; simp
theorem sum_le_len (L : List Int) : ∀ b : List S36, L.Nodup → sumN b L ≤ b.length := by
  induction L with
  | nil => intro b _; exact Nat.zero_le _
  | cons n L ih =>
    intro b hd
    rw [List.nodup_cons] at hd
    have h1 := split_len b n
    have h2 := ih (b.filter (fun e => !keepE n e)) hd.2
    have h3 : sumN (b.filter (fun e => !keepE n e)) L = sumN b L := by
      unfold sumN
      congr 1
      apply List.map_congr_left
      intro m hm
      rw [of_rest, if_neg (by rintro rfl; exact hd.1 hm)]
    show (ofL b n).length + sumN b L ≤ b.length
    omega
theorem alike_ref (a b : List S36) : ((namesF a).all (fun n => eqL (ofL a n) (ofL b n)) && decide (a.length = b.length)) = alikeB a b := by
  rw [Bool.eq_iff_iff, alike_iff, Bool.and_eq_true, List.all_eq_true, decide_eq_true_iff]
  constructor
  · rintro ⟨h1, h2⟩ n
    by_cases hn : n ∈ namesF a
    · exact (eqL_iff _ _).1 (h1 n hn)
    · have ha : ofL a n = [] := of_empty (fun e he q => hn ((names_mem a n).2 ⟨e, he, q⟩))
      have hs1 := sum_all (namesF a) a (names_nodup a) (fun e he => (names_mem a _).2 ⟨e, he, rfl⟩)
      have hs2 : sumN b (namesF a) = sumN a (namesF a) := by
        unfold sumN
        congr 1
        apply List.map_congr_left
        intro m hm
        rw [(eqL_iff _ _).1 (h1 m hm)]
      have hs3 := sum_le_len (n :: namesF a) b (List.nodup_cons.2 ⟨hn, names_nodup a⟩)
      have hs4 : sumN b (n :: namesF a) = (ofL b n).length + sumN b (namesF a) := rfl
      have hb : ofL b n = [] := List.eq_nil_of_length_eq_zero (by omega)
      rw [ha, hb]
  · intro h
    exact ⟨fun n _ => (eqL_iff _ _).2 (h n), alike_len a.length a b (Nat.le_refl _) h⟩
theorem PrefixCuts (l0 : List S36) (h0 : l0.length ≤ 9223372036854775807) (l1 : List S36) (h1 : l1.length ≤ 9223372036854775807) (a2 : Int) (w2 : (Lit.int .i64 a2).wf = true) (a3 : Int) (w3 : (Lit.int .i64 a3).wf = true) : ∃ k, recantlaw08_PrefixCuts.f k l0 l1 a2 a3 ∧ true = true := by
  obtain ⟨a, ha⟩ : ∃ a, a = l0.take 65 := ⟨_, rfl⟩
  obtain ⟨b, hb⟩ : ∃ b, b = l1.take 65 := ⟨_, rfl⟩
  have hal : a.length ≤ 65 := by rw [ha, List.length_take]; omega
  have hbl : b.length ≤ 65 := by rw [hb, List.length_take]; omega
  have h1000 : (ofL a a3).length ≤ 1000 := Nat.le_trans (List.length_filter_le _ _) (by omega)
  obtain ⟨K1, e1⟩ := pof_f a a3 (by omega)
  obtain ⟨K2, e2⟩ := psame_f (ofL a a3) (ofL a a3) h1000
  obtain ⟨K3, e3⟩ := palike a b (by omega) (by omega) (namesF a).length 0 (by omega)
  obtain ⟨K4, e4⟩ := pnames_f a (by omega)
  obtain ⟨K5, e5⟩ := psame_f (a.take a2.toNat) (a.take a2.toNat) (by rw [List.length_take]; omega)
  obtain ⟨k, hk⟩ : ∃ k, k = max K1 (max K2 (max K3 (max K4 K5))) := ⟨_, rfl⟩
  have e1 := e1 k (by omega)
  have e2 := e2 k (by omega)
  have e3 := e3 k (by omega)
  have e4 := e4 k (by omega)
  have e5 := e5 k (by omega)
  dsimp only at e1 e2 e3 e4 e5
  rw [(eqL_iff _ _).2 rfl] at e2 e5
  rw [List.drop_zero, alike_ref] at e3
  refine ⟨k, ⟨⟨?_, ?_, ?_, ?_⟩, alive08⟩, rfl⟩
  · rw [← ha]; exact e1
  · rw [← ha]; exact e2
  · rw [← ha, ← hb]
    unfold recantref08_Alike.f
    rw [e4, Option.bind_some]
    exact e3
  · intro n hn hle
    rw [← ha]
    rw [hn, Int.toNat_natCast] at e5
    exact e5
end Go.Proofs.YtkjkceeopkfniaaDoor.Pure

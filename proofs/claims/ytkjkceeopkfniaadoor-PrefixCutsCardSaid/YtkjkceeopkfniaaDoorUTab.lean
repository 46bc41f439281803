/- Plain facts about the transactions of events. -/
import Derived.Test.YtkjkceeopkfniaaDoorGTable
import Derived.Test.YtkjkceeopkfniaaDoorGOf2
import Derived.Test.YtkjkceeopkfniaaDoorUNum
namespace Go.Proofs.YtkjkceeopkfniaaDoor.U
set_option linter.unusedVariables false
set_option linter.unusedSimpArgs false
open Go Go.RowKit Go.Proofs.YtkjkceeopkfniaaDoor.P Go.Proofs.YtkjkceeopkfniaaDoorW.PrintWords Go.Proofs.YtkjkceeopkfniaaDoorW.PrintLast Go.Proofs.YtkjkceeopkfniaaDoorW.PrintMore

/-- The name at a place. -/
def txA (l : List S36) (j : Nat) : Int := (rd_T36 l (j : Int)).f1
theorem rd_at (l : List S36) (j : Nat) (h : j < l.length) : rd_T36 l (j : Int) = l[j] := by
  unfold rd_T36; rw [Int.toNat_natCast, List.getD_eq_getElem?_getD, List.getElem?_eq_getElem h]; rfl
theorem txA_old (p : List S36) (e : S36) (j : Nat) (h : j < p.length) : txA (p ++ [e]) j = txA p j := by
  unfold txA
  rw [rd_at _ _ (by simp; omega), rd_at _ _ h, List.getElem_append_left h]
theorem txA_new (p : List S36) (e : S36) : txA (p ++ [e]) p.length = e.f1 := by
  unfold txA
  rw [rd_at _ _ (by simp)]
  simp
/-- What the keepers tell of the events so far. -/
structure KI (p : List S36) (ks : List KP) : Prop where
  nm : ∀ n, hasN ks n = true ↔ ∃ j, j < p.length ∧ txA p j = n
  fl : ∀ k ∈ ks, ∃ f g : Nat, k.first = (f : Int) ∧ k.last = (g : Int) ∧ f ≤ g ∧ g < p.length ∧ txA p f = k.name ∧ txA p g = k.name ∧ ∀ j, j < p.length → txA p j = k.name → f ≤ j ∧ j ≤ g
theorem hasN_iff (ks : List KP) (n : Int) : hasN ks n = true ↔ ∃ k ∈ ks, k.name = n := by
  unfold hasN
  rw [List.any_eq_true]
  simp
theorem ins_has (i n : Int) (ks : List KP) (m : Int) : hasN (insK i n ks) m = true ↔ (hasN ks m = true ∨ m = n) := by
  unfold insK
  cases h : hasN ks n with
  | true =>
    rw [if_pos rfl]
    exact ⟨.inl, fun h2 => h2.elim id (fun e => by rw [e]; exact h)⟩
  | false =>
    rw [if_neg Bool.false_ne_true, hasN_iff, hasN_iff]
    constructor
    · rintro ⟨k, hk, e⟩
      rcases List.mem_append.1 hk with hk | hk
      · exact .inl ⟨k, hk, e⟩
      · have : k = newK i n := by simpa using hk
        subst this
        exact .inr e.symm
    · rintro (⟨k, hk, e⟩ | rfl)
      · exact ⟨k, List.mem_append_left _ hk, e⟩
      · exact ⟨newK i m, List.mem_append_right _ List.mem_cons_self, rfl⟩
theorem ki_step {p : List S36} {ks : List KP} (h : KI p ks) (e : S36) : KI (p ++ [e]) (stepK (p.length : Int) e ks) := by
  have hlen : (p ++ [e]).length = p.length + 1 := by simp
  refine ⟨fun n => ?_, fun k hk => ?_⟩
  · unfold stepK
    have h1 : hasN ((insK (p.length : Int) e.f1 ks).map (updK (p.length : Int) e)) n = hasN (insK (p.length : Int) e.f1 ks) n := by
      unfold hasN
      rw [List.any_map]
      congr 1
      funext k
      show ((updK _ e k).name == n) = _
      rw [upd_name]
    rw [h1, ins_has, h.nm]
    constructor
    · rintro (⟨j, hj, e1⟩ | rfl)
      · exact ⟨j, by omega, by rw [txA_old _ _ _ hj]; exact e1⟩
      · exact ⟨p.length, by omega, txA_new p e⟩
    · rintro ⟨j, hj, e1⟩
      by_cases hjp : j < p.length
      · exact .inl ⟨j, hjp, by rw [← txA_old p e j hjp]; exact e1⟩
      · have : j = p.length := by omega
        subst this
        rw [txA_new] at e1
        exact .inr e1.symm
  · obtain ⟨k0, hk0, rfl⟩ := List.mem_map.1 hk
    rw [upd_name]
    have hold : ∀ f g : Nat, f ≤ g → g < p.length → txA p f = k0.name → txA p g = k0.name → (∀ j, j < p.length → txA p j = k0.name → f ≤ j ∧ j ≤ g) → ∃ g' : Nat, (if k0.name = e.f1 then (p.length : Int) else (g : Int)) = (g' : Int) ∧ f ≤ g' ∧ g' < (p ++ [e]).length ∧ txA (p ++ [e]) f = k0.name ∧ txA (p ++ [e]) g' = k0.name ∧ ∀ j, j < (p ++ [e]).length → txA (p ++ [e]) j = k0.name → f ≤ j ∧ j ≤ g' := by
      intro f g hfg hg hf1 hg1 hall
      by_cases hn : k0.name = e.f1
      · refine ⟨p.length, by rw [if_pos hn], by omega, by omega, by rw [txA_old _ _ _ (by omega)]; exact hf1, by rw [txA_new]; exact hn.symm, fun j hj hj1 => ?_⟩
        by_cases hjp : j < p.length
        · rw [txA_old _ _ _ hjp] at hj1
          have := hall j hjp hj1
          omega
        · omega
      · refine ⟨g, by rw [if_neg hn], hfg, by omega, by rw [txA_old _ _ _ (by omega)]; exact hf1, by rw [txA_old _ _ _ hg]; exact hg1, fun j hj hj1 => ?_⟩
        by_cases hjp : j < p.length
        · rw [txA_old _ _ _ hjp] at hj1
          exact hall j hjp hj1
        · have : j = p.length := by omega
          subst this
          rw [txA_new] at hj1
          exact absurd hj1.symm hn
    have hmem : k0 ∈ ks ∨ (k0 = newK (p.length : Int) e.f1 ∧ hasN ks e.f1 = false) := by
      unfold insK at hk0
      cases hh : hasN ks e.f1 with
      | true => rw [hh, if_pos rfl] at hk0; exact .inl hk0
      | false =>
        rw [hh, if_neg Bool.false_ne_true] at hk0
        rcases List.mem_append.1 hk0 with hk0 | hk0
        · exact .inl hk0
        · exact .inr ⟨by simpa using hk0, rfl⟩
    rcases hmem with hm | ⟨rfl, hno⟩
    · obtain ⟨f, g, hf, hg, hfg, hgl, hf1, hg1, hall⟩ := h.fl k0 hm
      obtain ⟨g', e1, e2, e3, e4, e5, e6⟩ := hold f g hfg hgl hf1 hg1 hall
      refine ⟨f, g', ?_, ?_, e2, e3, e4, e5, e6⟩
      · unfold updK
        split
        · exact hf
        · exact hf
      · rw [← e1]
        unfold updK
        split
        · rfl
        · exact hg
    · refine ⟨p.length, p.length, ?_, ?_, Nat.le_refl _, by omega, txA_new p e, txA_new p e, fun j hj hj1 => ?_⟩
      · unfold updK
        split <;> rfl
      · unfold updK
        rw [if_pos (show (newK (p.length : Int) e.f1).name = e.f1 from rfl)]
        rfl
      · by_cases hjp : j < p.length
        · rw [txA_old _ _ _ hjp] at hj1
          have : hasN ks e.f1 = true := (h.nm e.f1).2 ⟨j, hjp, hj1⟩
          rw [this] at hno
          cases hno
        · omega
theorem ki_all (t : List S36) : ∀ (p : List S36) (ks : List KP), KI p ks → KI (p ++ t) (tabK p.length t ks) := by
  induction t with
  | nil => intro p ks h; rw [List.append_nil]; exact h
  | cons e t ih =>
    intro p ks h
    have h1 := ih (p ++ [e]) _ (ki_step h e)
    have hl : (p ++ [e]).length = p.length + 1 := by simp
    rw [hl, List.append_assoc] at h1
    exact h1
theorem ki_tab (l : List S36) : KI l (tabK 0 l []) := by
  have h0 : KI [] [] := ⟨fun n => ⟨fun h => by simp [hasN] at h, fun ⟨j, hj, _⟩ => by simp at hj⟩, fun k hk => by cases hk⟩
  exact ki_all l [] [] h0
/-- How many events a name has. -/
theorem count_seg (l : List S36) (n : Int) (f g : Nat) (hfg : f ≤ g) (hg : g < l.length) (hall : ∀ j, j < l.length → txA l j = n → f ≤ j ∧ j ≤ g) : (l.filter (keepE n)).length = (((l.drop f).take (g + 1 - f)).filter (keepE n)).length := by
  have hsplit : l = l.take f ++ ((l.drop f).take (g + 1 - f) ++ l.drop (g + 1)) := by
    have h1 : (l.drop f).take (g + 1 - f) ++ l.drop (g + 1) = l.drop f := by
      have h2 : l.drop (g + 1) = (l.drop f).drop (g + 1 - f) := by rw [List.drop_drop]; congr 1; omega
      rw [h2, List.take_append_drop]
    rw [h1, List.take_append_drop]
  have none1 : (l.take f).filter (keepE n) = [] := by
    rw [List.filter_eq_nil_iff]
    intro x hx
    obtain ⟨j, hj⟩ := List.mem_iff_getElem?.1 hx
    rw [List.getElem?_take] at hj
    split at hj
    · rename_i hjf
      intro hk
      have hjl : j < l.length := (List.getElem?_eq_some_iff.1 hj).1
      have hx2 : l[j] = x := (List.getElem?_eq_some_iff.1 hj).2
      have : txA l j = n := by unfold txA; rw [rd_at _ _ hjl, hx2]; unfold keepE at hk; simpa using hk
      have := hall j hjl this
      omega
    · cases hj
  have none2 : (l.drop (g + 1)).filter (keepE n) = [] := by
    rw [List.filter_eq_nil_iff]
    intro x hx
    obtain ⟨j, hj⟩ := List.mem_iff_getElem?.1 hx
    rw [List.getElem?_drop] at hj
    intro hk
    have hjl : g + 1 + j < l.length := (List.getElem?_eq_some_iff.1 hj).1
    have hx2 : l[g + 1 + j] = x := (List.getElem?_eq_some_iff.1 hj).2
    have : txA l (g + 1 + j) = n := by unfold txA; rw [rd_at _ _ hjl, hx2]; unfold keepE at hk; simpa using hk
    have := hall _ hjl this
    omega
  conv => lhs; rw [hsplit]
  rw [List.filter_append, List.filter_append, none1, none2, List.nil_append, List.append_nil]
theorem seg_all (l : List S36) (n : Int) (f g : Nat) (hfg : f ≤ g) (hg : g < l.length) (hall : ∀ j, j < l.length → txA l j = n → f ≤ j ∧ j ≤ g) : (l.filter (keepE n)).length = g + 1 - f ↔ ∀ j, f ≤ j → j ≤ g → txA l j = n := by
  rw [count_seg l n f g hfg hg hall]
  have hlen : ((l.drop f).take (g + 1 - f)).length = g + 1 - f := by rw [List.length_take, List.length_drop]; omega
  constructor
  · intro h j h1 h2
    replace h := h.trans hlen.symm
    rw [List.length_filter_eq_length_iff] at h
    have hjl : j < l.length := by omega
    have hm : l[j] ∈ (l.drop f).take (g + 1 - f) := by
      rw [List.mem_iff_getElem?]
      refine ⟨j - f, ?_⟩
      rw [List.getElem?_take, if_pos (by omega), List.getElem?_drop, show f + (j - f) = j by omega, List.getElem?_eq_getElem hjl]
    have := h _ hm
    unfold txA
    rw [rd_at _ _ hjl]
    unfold keepE at this
    simpa using this
  · intro h
    refine (List.length_filter_eq_length_iff.2 ?_).trans hlen
    intro x hx
    obtain ⟨j, hj⟩ := List.mem_iff_getElem?.1 hx
    rw [List.getElem?_take] at hj
    split at hj
    · rename_i hjf
      rw [List.getElem?_drop] at hj
      have hjl : f + j < l.length := (List.getElem?_eq_some_iff.1 hj).1
      have hx2 : l[f + j] = x := (List.getElem?_eq_some_iff.1 hj).2
      have := h (f + j) (by omega) (by omega)
      unfold txA at this
      rw [rd_at _ _ hjl, hx2] at this
      unfold keepE
      simpa using this
    · cases hj
end Go.Proofs.YtkjkceeopkfniaaDoor.U

/- Plain facts about the table of well-formed events. -/
import Derived.Test.YtkjkceeopkfniaaDoorGTable
import Derived.Test.YtkjkceeopkfniaaDoorUNum
namespace Go.Proofs.YtkjkceeopkfniaaDoor.U
set_option linter.unusedVariables false
set_option linter.unusedSimpArgs false
open Go Go.RowKit Go.Proofs.YtkjkceeopkfniaaDoor.P Go.Proofs.YtkjkceeopkfniaaDoorW.PrintWords Go.Proofs.YtkjkceeopkfniaaDoorW.PrintLast Go.Proofs.YtkjkceeopkfniaaDoorW.PrintMore

def lastF (tx : Int) (a : Int) (e : S36) : Int := if e.f1 = tx then e.f0 else a
def lastK (l : List S36) (tx : Int) : Int := l.foldl (lastF tx) (-1)
theorem last_snoc (l : List S36) (e : S36) (tx : Int) : lastK (l ++ [e]) tx = if e.f1 = tx then e.f0 else lastK l tx := by
  unfold lastK
  rw [List.foldl_append]
  rfl
def mayB (a b : Int) : Bool := if a = -1 then b == 0 else if a = 0 then (b == 1 || b == 9) else if a = 1 ∨ a = 3 ∨ a = 5 then (b == 2 || b == 4 || b == 6 || b == 8) else if a = 2 then (b == 3 || b == 9) else if a = 4 then (b == 5 || b == 9) else if a = 6 then (b == 7 || b == 9) else if a = 8 then b == 9 else false
def firstR : List S36 → List S36 → Nat
  | _, [] => 0
  | p, e :: t => if mayB (lastK p e.f1) e.f0 = true then firstR (p ++ [e]) t + 1 else 0
/-- The state behind a kind. -/
def stK (a : Int) : Int := if a = -1 then 0 else if a = 0 then 1 else if a = 1 ∨ a = 3 ∨ a = 5 then 2 else if a = 2 then 3 else if a = 4 then 4 else if a = 6 then 5 else if a = 8 then 6 else 7
theorem next_st (a b : Int) (h0 : -1 ≤ a) (h1 : a ≤ 9) (h2 : 0 ≤ b) (h3 : b ≤ 9) : nextS (stK a) b = if mayB a b = true then some (stK b) else none := by
  have h : ∀ (i : Fin 11) (j : Fin 10), nextS (stK ((i.val : Int) - 1)) (j.val : Int) = if mayB ((i.val : Int) - 1) (j.val : Int) = true then some (stK (j.val : Int)) else none := by decide +kernel
  have := h ⟨(a + 1).toNat, by omega⟩ ⟨b.toNat, by omega⟩
  dsimp only at this
  rw [show (((a + 1).toNat : Nat) : Int) - 1 = a by omega, show ((b.toNat : Nat) : Int) = b by omega] at this
  exact this
theorem first_run (t : List S36) : ∀ (p : List S36) (g : Int → Option Int), (∀ tx, (g tx).getD 0 = stK (lastK p tx)) → (∀ tx, -1 ≤ lastK p tx ∧ lastK p tx ≤ 9) → (∀ e ∈ t, 0 ≤ e.f0 ∧ e.f0 ≤ 9) → firstR p t = runI g t := by
  induction t with
  | nil => intro p g _ _ _; rfl
  | cons e t ih =>
    intro p g hg hp ht
    have he := ht e List.mem_cons_self
    have hp1 := hp e.f1
    unfold firstR runI
    rw [hg, next_st _ _ hp1.1 hp1.2 he.1 he.2]
    cases mayB (lastK p e.f1) e.f0 with
    | false => rfl
    | true =>
      rw [if_pos rfl, if_pos rfl]
      dsimp only
      rw [ih (p ++ [e]) (setF g e.f1 (stK e.f0)) (fun tx => ?_) (fun tx => ?_) (fun x hx => ht x (List.mem_cons_of_mem _ hx))]
      · rw [last_snoc]
        unfold setF
        by_cases h : e.f1 = tx
        · rw [if_pos h, if_pos h.symm]; rfl
        · rw [if_neg h, if_neg (fun q => h q.symm)]; exact hg tx
      · rw [last_snoc]
        by_cases h : e.f1 = tx
        · rw [if_pos h]; omega
        · rw [if_neg h]; exact hp tx
theorem rights_kinds {l : List S36} (h : rightsB l = true) : ∀ e ∈ l, 0 ≤ e.f0 ∧ e.f0 ≤ 9 := by
  unfold rightsB at h
  simp only [Bool.and_eq_true, Bool.not_eq_true'] at h
  intro e he
  have h1 := List.any_eq_false.1 h.2.1 e he
  have h2 : rightB e = true := by simpa using h1
  unfold rightB inB at h2
  simp only [Bool.and_eq_true, decide_eq_true_eq] at h2
  exact h2.1
def whyB (l : List S36) : Int := if rightsB l = true then (if (runI noF l : Int) < l.length then 6 else 0) else 1
theorem snoc_ind {α : Type} {P : List α → Prop} (h0 : P []) (hs : ∀ p e, P p → P (p ++ [e])) (l : List α) : P l := by
  have h : ∀ r : List α, P r.reverse := by
    intro r
    induction r with
    | nil => exact h0
    | cons e t ih => rw [List.reverse_cons]; exact hs _ _ ih
  have := h l.reverse
  rwa [List.reverse_reverse] at this
def z0 : S36 := ⟨0, 0, 0, 0⟩
def lastS (n : Int) (a e : S36) : S36 := if e.f1 = n then e else a
def lastE (p : List S36) (n : Int) : S36 := p.foldl (lastS n) z0
def askS (n : Int) (a e : S36) : S36 := if e.f1 = n then (if e.f0 = 2 ∨ e.f0 = 4 then e else a) else a
def askE (p : List S36) (n : Int) : S36 := p.foldl (askS n) z0
def flS (i : Int) (e : S36) (n : Int) (fl : Int × Int) : Int × Int := if e.f1 = n then (if fl.1 < 0 then i else fl.1, i) else fl
def flF : Nat → List S36 → Int → Int × Int → Int × Int
  | _, [], _, fl => fl
  | i, e :: t, n, fl => flF (i + 1) t n (flS i e n fl)
def opsS (a e : S36) : List S52 := if e.f0 = 3 then [⟨false, a.f2, e.f3⟩] else if e.f0 = 5 then [⟨true, a.f2, a.f3⟩] else []
def opsR : List S36 → List S36 → Int → List S52
  | _, [], _ => []
  | p, e :: t, n => (if e.f1 = n then opsS (lastE p n) e else []) ++ opsR (p ++ [e]) t n
def FL (p : List S36) (n : Int) : Int × Int := flF 0 p n (-1, 0)
def refK (p : List S36) (n : Int) : KP := ⟨n, (FL p n).1, (FL p n).2, stF (lastK p n), opsR [] p n, askE p n⟩
theorem lastE_snoc (p : List S36) (e : S36) (n : Int) : lastE (p ++ [e]) n = lastS n (lastE p n) e := by unfold lastE; rw [List.foldl_append]; rfl
theorem askE_snoc (p : List S36) (e : S36) (n : Int) : askE (p ++ [e]) n = askS n (askE p n) e := by unfold askE; rw [List.foldl_append]; rfl
theorem flF_snoc (p : List S36) (e : S36) (n : Int) : ∀ (i : Nat) (fl : Int × Int), flF i (p ++ [e]) n fl = flS ((i + p.length : Nat) : Int) e n (flF i p n fl) := by
  induction p with
  | nil => intro i fl; rfl
  | cons x t ih =>
    intro i fl
    show flF (i + 1) (t ++ [e]) n _ = _
    rw [ih, List.length_cons, show i + 1 + t.length = i + (t.length + 1) by omega]
    rfl
theorem FL_snoc (p : List S36) (e : S36) (n : Int) : FL (p ++ [e]) n = flS (p.length : Int) e n (FL p n) := by
  unfold FL; rw [flF_snoc, Nat.zero_add]
theorem opsR_snoc (t : List S36) (e : S36) (n : Int) : ∀ p : List S36, opsR p (t ++ [e]) n = opsR p t n ++ (if e.f1 = n then opsS (lastE (p ++ t) n) e else []) := by
  induction t with
  | nil => intro p; show (_ ++ []) = _; rw [List.append_nil, List.append_nil]; rfl
  | cons x t ih =>
    intro p
    show _ ++ opsR (p ++ [x]) (t ++ [e]) n = _
    rw [ih, ← List.append_assoc, List.append_assoc p [x] t]
    rfl
theorem mem_addN (acc : List Int) (e : S36) (m : Int) : m ∈ addN acc e ↔ m ∈ acc ∨ m = e.f1 := by
  unfold addN
  by_cases h : acc.contains e.f1 = true
  · rw [if_pos h]
    exact ⟨.inl, fun q => q.elim id (fun q => by rw [q]; exact List.contains_iff_mem.1 h)⟩
  · rw [if_neg h, List.mem_append, List.mem_singleton]
theorem absent (p : List S36) (n : Int) (h : n ∉ namesF p) : FL p n = (-1, 0) ∧ lastK p n = -1 ∧ opsR [] p n = [] ∧ lastE p n = z0 ∧ askE p n = z0 := by
  revert h
  refine snoc_ind (P := fun p => n ∉ namesF p → FL p n = (-1, 0) ∧ lastK p n = -1 ∧ opsR [] p n = [] ∧ lastE p n = z0 ∧ askE p n = z0) ?_ ?_ p
  · intro _; exact ⟨rfl, rfl, rfl, rfl, rfl⟩
  · intro p e ih h
    rw [names_snoc, mem_addN] at h
    obtain ⟨h1, h2, h3, h4, h5⟩ := ih (fun q => h (.inl q))
    have hne : ¬ e.f1 = n := fun q => h (.inr q.symm)
    rw [FL_snoc, last_snoc, opsR_snoc, lastE_snoc, askE_snoc, h1, h2, h3, h4, h5]
    unfold flS lastS askS
    rw [if_neg hne, if_neg hne, if_neg hne, if_neg hne, if_neg hne]
    exact ⟨rfl, rfl, rfl, rfl, rfl⟩
theorem present (p : List S36) (n : Int) (h : n ∈ namesF p) : 0 ≤ (FL p n).1 := by
  revert h
  refine snoc_ind (P := fun p => n ∈ namesF p → 0 ≤ (FL p n).1) ?_ ?_ p
  · intro h; cases h
  · intro p e ih h
    rw [names_snoc, mem_addN] at h
    rw [FL_snoc]
    unfold flS
    by_cases he : e.f1 = n
    · rw [if_pos he]
      dsimp only
      split <;> omega
    · rw [if_neg he]
      exact ih (h.elim id (fun q => absurd q.symm he))
theorem ask_last (p : List S36) (n : Int) (h : lastK p n = 2 ∨ lastK p n = 4) : askE p n = lastE p n := by
  revert h
  refine snoc_ind (P := fun p => lastK p n = 2 ∨ lastK p n = 4 → askE p n = lastE p n) ?_ ?_ p
  · intro h; rfl
  · intro p e ih h
    rw [last_snoc] at h
    rw [askE_snoc, lastE_snoc]
    unfold askS lastS
    by_cases he : e.f1 = n
    · rw [if_pos he] at h
      rw [if_pos he, if_pos he, if_pos h]
    · rw [if_neg he] at h
      rw [if_neg he, if_neg he]
      exact ih h
theorem tab_snoc (p : List S36) (e : S36) : ∀ (i : Nat) (ks : List KP), tabK i (p ++ [e]) ks = stepK ((i + p.length : Nat) : Int) e (tabK i p ks) := by
  induction p with
  | nil => intro i ks; rfl
  | cons x t ih =>
    intro i ks
    show tabK (i + 1) (t ++ [e]) _ = _
    rw [ih, List.length_cons, show i + 1 + t.length = i + (t.length + 1) by omega]
    rfl
def stepOK (p : List S36) (e : S36) : Prop := (e.f0 = 3 → lastK p e.f1 = 2) ∧ (e.f0 = 5 → lastK p e.f1 = 4)
theorem take_ref (p : List S36) (e : S36) (n : Int) (hn : e.f1 = n) (hk : stepOK p e) (f : Int) (hf : f = (if (FL p n).1 < 0 then (p.length : Int) else (FL p n).1)) (k : KP) (h1 : k.name = n) (h2 : k.first = f) (h3 : k.ops = opsR [] p n) (h4 : k.asked = askE p n) : takeK (p.length : Int) e k = refK (p ++ [e]) n := by
  obtain ⟨name, first, last, st, ops, asked⟩ := k
  dsimp only at h1 h2 h3 h4
  subst h1 h2 h3 h4
  unfold takeK refK
  rw [FL_snoc, last_snoc, opsR_snoc, askE_snoc]
  unfold flS askS
  rw [if_pos hn, if_pos hn, if_pos hn, if_pos hn, List.nil_append]
  dsimp only
  rw [hf]
  have ho : opsF ⟨name, first, last, st, opsR [] p name, askE p name⟩ e = opsR [] p name ++ opsS (lastE p name) e := by
    unfold opsF opsS
    dsimp only
    by_cases h3 : e.f0 = 3
    · have := ask_last p name (.inl (by rw [← hn]; exact hk.1 h3))
      rw [if_pos h3, if_pos h3, this]
    · rw [if_neg h3, if_neg h3]
      by_cases h5 : e.f0 = 5
      · have := ask_last p name (.inr (by rw [← hn]; exact hk.2 h5))
        rw [if_pos h5, if_pos h5, this]
      · rw [if_neg h5, if_neg h5, List.append_nil]
  rw [hf] at ho
  rw [ho]
  rfl
theorem step_ref (p : List S36) (e : S36) (hk : stepOK p e) : stepK (p.length : Int) e ((namesF p).map (refK p)) = (namesF (p ++ [e])).map (refK (p ++ [e])) := by
  have hold : ∀ m ∈ namesF p, updK (p.length : Int) e (refK p m) = refK (p ++ [e]) m := by
    intro m hm
    unfold updK
    by_cases h : (refK p m).name = e.f1
    · rw [if_pos h]
      have hm1 : e.f1 = m := h.symm
      have := present p m hm
      exact take_ref p e m hm1 hk _ rfl (refK p m) rfl (by rw [if_neg (by omega)]; rfl) rfl rfl
    · rw [if_neg h]
      have hne : ¬ e.f1 = m := fun q => h q.symm
      unfold refK
      rw [FL_snoc, last_snoc, opsR_snoc, askE_snoc]
      unfold flS askS
      rw [if_neg hne, if_neg hne, if_neg hne, if_neg hne, List.append_nil]
  have hh : hasN ((namesF p).map (refK p)) e.f1 = (namesF p).contains e.f1 := by
    unfold hasN
    rw [List.any_map, Bool.eq_iff_iff, List.any_eq_true, List.contains_iff_mem]
    constructor
    · rintro ⟨m, hm, h⟩
      have : m = e.f1 := by simpa [refK] using h
      rw [← this]; exact hm
    · intro h
      exact ⟨e.f1, h, by simp [refK]⟩
  unfold stepK insK
  rw [hh, names_snoc]
  unfold addN
  by_cases hc : (namesF p).contains e.f1 = true
  · rw [if_pos hc, if_pos hc, List.map_map]
    apply List.map_congr_left
    intro m hm
    exact hold m hm
  · rw [if_neg hc, if_neg hc, List.map_append, List.map_append, List.map_map]
    congr 1
    · apply List.map_congr_left
      intro m hm
      exact hold m hm
    · have hab := absent p e.f1 (fun q => hc (List.contains_iff_mem.2 q))
      show [updK _ e (newK _ e.f1)] = [refK (p ++ [e]) e.f1]
      congr 1
      unfold updK
      rw [if_pos (show (newK (p.length : Int) e.f1).name = e.f1 from rfl)]
      refine take_ref p e e.f1 rfl hk _ rfl _ rfl ?_ ?_ ?_
      · rw [hab.1, if_pos (by decide)]; rfl
      · rw [hab.2.2.1]; rfl
      · rw [hab.2.2.2.2]; rfl
theorem tab_ref (l : List S36) (hg : ∀ i (h : i < l.length), stepOK (l.take i) l[i]) : ∀ i : Nat, i ≤ l.length → tabK 0 (l.take i) [] = (namesF (l.take i)).map (refK (l.take i)) := by
  intro i
  induction i with
  | zero => intro _; rfl
  | succ i ih =>
    intro hi
    have hlt : i < l.length := by omega
    have h1 := ih (by omega)
    rw [List.take_succ_eq_append_getElem hlt, tab_snoc, h1, Nat.zero_add]
    exact step_ref _ _ (hg i hlt)
theorem may3 {a : Int} (h : mayB a 3 = true) : a = 2 := by
  unfold mayB at h
  repeat' split at h
  all_goals first | assumption | simp at h
theorem may5 {a : Int} (h : mayB a 5 = true) : a = 4 := by
  unfold mayB at h
  repeat' split at h
  all_goals first | assumption | simp at h
theorem first_may (t : List S36) : ∀ p : List S36, firstR p t = t.length → ∀ i (h : i < t.length), mayB (lastK (p ++ t.take i) t[i].f1) t[i].f0 = true := by
  induction t with
  | nil => intro p _ i h; exact absurd h (Nat.not_lt_zero _)
  | cons e t ih =>
    intro p hp i hi
    unfold firstR at hp
    by_cases hm : mayB (lastK p e.f1) e.f0 = true
    · rw [if_pos hm, List.length_cons] at hp
      cases i with
      | zero => rw [List.take_zero, List.append_nil]; exact hm
      | succ i =>
        have := ih (p ++ [e]) (by omega) i (by simpa using hi)
        rw [List.append_assoc] at this
        exact this
    · rw [if_neg hm] at hp
      simp at hp
theorem run_first (l : List S36) (hr : rightsB l = true) : firstR [] l = runI noF l :=
  first_run l [] noF (fun tx => rfl) (fun tx => ⟨by show (-1 : Int) ≤ -1; omega, by show (-1 : Int) ≤ 9; omega⟩) (rights_kinds hr)
theorem why_steps {l : List S36} (h : whyB l = 0) : rightsB l = true ∧ ¬ ((runI noF l : Int) < l.length) ∧ ∀ i (h : i < l.length), stepOK (l.take i) l[i] := by
  unfold whyB at h
  by_cases hr : rightsB l = true
  · rw [if_pos hr] at h
    by_cases hl : (runI noF l : Int) < l.length
    · rw [if_pos hl] at h
      cases h
    · refine ⟨hr, hl, fun i hi => ?_⟩
      have hle := runI_le l (noF : Int → Option Int)
      have h1 := first_may l [] (by rw [run_first l hr]; omega) i hi
      rw [List.nil_append] at h1
      exact ⟨fun e => may3 (by rw [e] at h1; exact h1), fun e => may5 (by rw [e] at h1; exact h1)⟩
  · rw [if_neg hr] at h
    cases h
theorem tab_doc {l : List S36} (h : whyB l = 0) : tabT l = (namesF l).map (fun n => txnK (refK l n)) := by
  have := tab_ref l (why_steps h).2.2 l.length (Nat.le_refl _)
  rw [List.take_length] at this
  unfold tabT
  rw [this, List.map_map]
  rfl

theorem opsS_len (a e : S36) : (opsS a e).length ≤ 1 := by
  unfold opsS
  split
  · exact Nat.le_refl _
  · split
    · exact Nat.le_refl _
    · exact Nat.zero_le _
theorem opsR_len (t : List S36) (n : Int) : ∀ p, (opsR p t n).length ≤ t.length := by
  induction t with
  | nil => intro p; exact Nat.le_refl _
  | cons e t ih =>
    intro p
    have h1 := ih (p ++ [e])
    have h2 := opsS_len (lastE p n) e
    show ((if e.f1 = n then opsS (lastE p n) e else []) ++ _).length ≤ _
    rw [List.length_append, List.length_cons]
    split
    · omega
    · rw [List.length_nil]; omega
end Go.Proofs.YtkjkceeopkfniaaDoor.U

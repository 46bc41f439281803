/- Bytes of events, read and printed, plainly: whole rows. -/
import Derived.Test.YthkpocgbinmeiaaDoorUBack
import Derived.Test.YthkpocgbinmeiaaDoorGTPrint
namespace Go.Proofs.YthkpocgbinmeiaaDoor.U
set_option linter.unusedVariables false
set_option linter.unusedSimpArgs false
open Go Go.RowKit Go.Proofs.YthkpocgbinmeiaaDoor.P Go.Proofs.YthkpocgbinmeiaaDoorW.PrintWords Go.Proofs.YthkpocgbinmeiaaDoorW.PrintLast Go.Proofs.YthkpocgbinmeiaaDoorW.PrintMore

theorem bprint_acc (l : List S34) : ∀ acc : List Int, printL acc l = acc ++ printL [] l := by
  induction l with
  | nil => intro acc; simp [printL]
  | cons e t ih =>
    intro acc
    show printL ((acc ++ putN (bodyL e).length) ++ bodyL e) t = acc ++ printL (([] ++ putN (bodyL e).length) ++ bodyL e) t
    rw [ih, ih (([] ++ putN (bodyL e).length) ++ bodyL e)]
    simp
theorem bprint_cons (e : S34) (t : List S34) : printL [] (e :: t) = (putN (bodyL e).length ++ bodyL e) ++ printL [] t := by
  show printL (([] ++ putN (bodyL e).length) ++ bodyL e) t = _
  rw [bprint_acc]; simp
theorem body_pos (e : S34) : 1 ≤ (bodyL e).length := by unfold bodyL; simp only [List.length_append, List.length_cons, List.length_nil]; omega
theorem seventh_no {evs : List S34} {ev : S34} (h : (namesF (evs ++ [ev])).length ≤ 6) : seventhB evs ev.f1 = false := by
  rw [names_snoc] at h
  unfold seventhB
  unfold addN at h
  by_cases hc : (namesF evs).contains ev.f1 = true
  · rw [hc]; simp
  · rw [if_neg hc, List.length_append] at h
    rw [decide_eq_false (by simp at h; omega)]; rfl
theorem names_one (evs : List S34) (ev : S34) : (namesF evs).length ≤ (namesF (evs ++ [ev])).length := by
  rw [names_snoc]; unfold addN; split <;> simp
theorem names_mono (hs : List S34) : ∀ evs : List S34, (namesF evs).length ≤ (namesF (evs ++ hs)).length := by
  induction hs with
  | nil => intro evs; simp
  | cons e t ih =>
    intro evs
    have h1 := names_one evs e
    have h2 := ih (evs ++ [e])
    rw [List.append_assoc] at h2
    exact Nat.le_trans h1 h2
theorem names_ok {evs : List S34} {ev : S34} (h6 : (namesF evs).length ≤ 6) (h : seventhB evs ev.f1 = false) : (namesF (evs ++ [ev])).length ≤ 6 := by
  rw [names_snoc]
  unfold addN
  by_cases hc : (namesF evs).contains ev.f1 = true
  · rw [if_pos hc]; exact h6
  · rw [if_neg hc, List.length_append]
    have hne : (namesF evs).length ≠ 6 := by
      intro he
      have hc' := Bool.eq_false_iff.2 hc
      unfold seventhB at h
      rw [he, hc'] at h
      simp at h
    simp; omega
/-- An event with its length. -/
def partL (ev : S34) : List Int := putN (bodyL ev).length ++ bodyL ev
theorem event_put {l : List Int} {p : Nat} {ev : S34} {evs : List S34} {wh : Int} (hp : p ≤ l.length) (hat : At l p (partL ev)) (hr : rightB ev = true) (h7 : seventhB evs ev.f1 = false) :
    evS l ⟨p, 0, wh⟩ evs = (⟨((p + (partL ev).length : Nat) : Int), 0, wh⟩, evs ++ [ev]) ∧ p + (partL ev).length ≤ l.length := by
  have hlen := hat.len hp
  unfold partL at hat hlen ⊢
  obtain ⟨h1, h2⟩ := At.app.1 hat
  rw [List.length_append] at hlen
  have hb := body_pos ev
  have hbl := body_len hr
  obtain ⟨hbody, hk⟩ := body_put (wh := wh) h2 (by omega) hr h7
  refine ⟨?_, by rw [List.length_append]; omega⟩
  unfold evS
  rw [num_put (wh := wh) h1 (by omega : p + (putN (bodyL ev).length).length ≤ l.length) (Nat.le_refl _) (by omega)]
  dsimp only
  rw [if_neg (fun h => h rfl), if_neg (by omega), if_neg (by omega), if_neg (by omega), show (((p + (putN (bodyL ev).length).length : Nat) : Int) + ((bodyL ev).length : Int)).toNat = p + (putN (bodyL ev).length).length + (bodyL ev).length by omega, hbody, List.length_append, Nat.add_assoc]
theorem loop_put {l : List Int} {wh : Int} (hs : List S34) : ∀ (p : Nat) (evs : List S34), p ≤ l.length → At l p (printL [] hs) → (∀ e ∈ hs, rightB e = true) → (namesF (evs ++ hs)).length ≤ 6 → loopS l hs.length ⟨p, 0, wh⟩ evs = (⟨((p + (printL [] hs).length : Nat) : Int), 0, wh⟩, evs ++ hs) := by
  induction hs with
  | nil => intro p evs _ _ _ _; simp [loopS, printL]
  | cons e t ih =>
    intro p evs hp hat hr hn
    rw [bprint_cons] at hat ⊢
    obtain ⟨h1, h2⟩ := At.app.1 hat
    have hn1 := names_mono t (evs ++ [e])
    rw [List.append_assoc] at hn1
    obtain ⟨he, hle⟩ := event_put (wh := wh) (evs := evs) hp h1 (hr e List.mem_cons_self) (seventh_no (Nat.le_trans hn1 hn))
    rw [List.length_cons]
    unfold loopS
    rw [if_pos rfl, he]
    dsimp only
    rw [ih (p + (partL e).length) (evs ++ [e]) hle h2 (fun x hx => hr x (List.mem_cons_of_mem _ hx)) (by rw [List.append_assoc]; exact hn), List.append_assoc, List.length_append, Nat.add_assoc]
    rfl
theorem parseS_of {l : List Int} {n : Int} {s s1 q : RSt} {evs : List S34} (hn : numS l l.length ⟨0, 0, 0⟩ = (n, s)) (h1 : (if (decide (s.bad = 0) && decide (60 < n)) = true then failS s 0 5 else s) = s1) (hq : loopS l n.toNat s1 [] = (q, evs)) :
    parseS l = (if (decide (q.bad = 0) && decide (q.pos ≠ (l.length : Int))) = true then failS q q.pos 2 else q, evs) := by
  unfold parseS
  simp only [hn]
  rw [h1, hq]
theorem parse_put {h : List S34} (hr : rightsB h = true) : tellS (parseS (printL (putN h.length) h)) = (h, 0, 0) := by
  have hreach := rights_each hr
  have hb : h.length ≤ 60 ∧ (namesF h).length ≤ 6 := by
    unfold rightsB at hr
    simp only [Bool.and_eq_true, decide_eq_true_eq] at hr
    exact ⟨hr.1, hr.2.2⟩
  obtain ⟨l, hl⟩ : ∃ l, l = printL (putN h.length) h := ⟨_, rfl⟩
  rw [← hl]
  have hat : At l 0 (putN h.length ++ printL [] h) := ⟨[], by rw [List.drop_zero, hl, bprint_acc, List.append_nil]⟩
  obtain ⟨h1, h2⟩ := At.app.1 hat
  have hll : l.length = (putN h.length).length + (printL [] h).length := by rw [hl, bprint_acc, List.length_append]
  have hnum : numS l l.length ⟨0, 0, 0⟩ = ((h.length : Int), ⟨(((putN h.length).length : Nat) : Int), 0, 0⟩) := by
    have := num_put (wh := 0) (e := l.length) h1 (by omega) (Nat.le_refl _) (by omega)
    rw [Nat.zero_add] at this
    exact this
  rw [Nat.zero_add] at h2
  have hloop := loop_put (wh := 0) h (putN h.length).length [] (by omega) h2 hreach (by simpa using hb.2)
  have hP := parseS_of (q := ⟨(((putN h.length).length + (printL [] h).length : Nat) : Int), 0, 0⟩) (evs := h) hnum (s1 := ⟨(((putN h.length).length : Nat) : Int), 0, 0⟩) (by rw [if_neg (by rw [decide_eq_false (by omega : ¬ (60 : Int) < (h.length : Int))]; simp)]) (by rw [Int.toNat_natCast]; simpa using hloop)
  rw [hll, if_neg (by simp)] at hP
  rw [hP]
  unfold tellS
  dsimp only
  rw [if_pos rfl]
theorem most_inv {l : List Int} (hl : ∀ x ∈ l, 0 ≤ x ∧ x ≤ 255) {e t : Nat} (hel : e ≤ l.length) {s : RSt} (h : (mostS l e t s).2.bad = 0) : ∃ p m : Nat, s = ⟨p, 0, s.wh⟩ ∧ m ≤ t ∧ mostS l e t s = ((m : Int), ⟨((p + (putN m).length : Nat) : Int), 0, s.wh⟩) ∧ At l p (putN m) ∧ p + (putN m).length ≤ e := by
  unfold mostS at h ⊢
  by_cases hc : (numS l e s).2.bad = 0 ∧ (t : Int) < (numS l e s).1
  · rw [if_pos hc] at h
    unfold failS at h
    rw [if_pos hc.1] at h
    exact absurd h (by show ¬ ((3 : Int) = 0); decide)
  · rw [if_neg hc] at h ⊢
    obtain ⟨p, m, v0, v1, v2, v3, v4, v5⟩ := num_inv hl hel h
    rw [v3] at hc ⊢
    dsimp only at hc
    refine ⟨p, m, v0, ?_, rfl, v4, v5⟩
    rcases Nat.lt_or_ge t m with h1 | h1
    · exact absurd ⟨rfl, by omega⟩ hc
    · exact h1
theorem signed_inv {l : List Int} (hl : ∀ x ∈ l, 0 ≤ x ∧ x ≤ 255) {e : Nat} (hel : e ≤ l.length) {s : RSt} (h : (signedS l e s).2.bad = 0) : ∃ (p : Nat) (z : Int), s = ⟨p, 0, s.wh⟩ ∧ (-2147483648 ≤ z ∧ z ≤ 2147483647) ∧ signedS l e s = (z, ⟨((p + (putN (zigN z).toNat).length : Nat) : Int), 0, s.wh⟩) ∧ At l p (putN (zigN z).toNat) ∧ p + (putN (zigN z).toNat).length ≤ e := by
  unfold signedS at h ⊢
  by_cases hc : zagS (numS l e s).1 < -2147483648 ∨ 2147483647 < zagS (numS l e s).1
  · rw [if_pos hc] at h
    by_cases hb : (numS l e s).2.bad = 0
    · unfold failS at h
      rw [if_pos hb] at h
      exact absurd h (by show ¬ ((3 : Int) = 0); decide)
    · unfold failS at h
      rw [if_neg hb] at h
      exact absurd h hb
  · rw [if_neg hc] at h ⊢
    obtain ⟨p, m, v0, v1, v2, v3, v4, v5⟩ := num_inv hl hel h
    rw [v3] at hc ⊢
    dsimp only at hc ⊢
    have hz := zig_zag m v2
    have hzt : (zigN (zagS (m : Int))).toNat = m := by rw [hz]; omega
    refine ⟨p, zagS (m : Int), v0, ⟨by omega, by omega⟩, ?_, by rw [hzt]; exact v4, by rw [hzt]; exact v5⟩
    rw [hzt]
theorem body_inv {l : List Int} (hl : ∀ x ∈ l, 0 ≤ x ∧ x ≤ 255) {p E : Nat} (hp : p < l.length) (hE : E ≤ l.length) {wh : Int} {evs : List S34} (hk : rd l (p : Int) < 10) (h : (bodyS l E (rd l (p : Int)) ⟨p, 0, wh⟩ evs).1.bad = 0) :
    ∃ ev, bodyS l E (rd l (p : Int)) ⟨p, 0, wh⟩ evs = (⟨(E : Int), 0, wh⟩, ev) ∧ At l p (bodyL ev) ∧ p + (bodyL ev).length = E ∧ rightB ev = true ∧ seventhB evs ev.f1 = false := by
  have hone := At.one hp
  have hkb := hl _ (rd_memG (l := l) (i := (p : Int)) (by omega) (by omega))
  obtain ⟨k, hke⟩ : ∃ k, k = rd l (p : Int) := ⟨_, rfl⟩
  rw [← hke] at hone hkb hk h ⊢
  obtain ⟨nm, s2, hm⟩ : ∃ nm s2, mostS l E 9999 ⟨(p : Int) + 1, 0, wh⟩ = (nm, s2) := ⟨_, _, rfl⟩
  obtain ⟨s4, h4⟩ : ∃ s4, s4 = if (decide (s2.bad = 0) && seventhB evs nm) = true then failS s2 ((p : Int) + 1) 5 else s2 := ⟨_, rfl⟩
  obtain ⟨v, s5, hv⟩ : ∃ v s5, (if varB k then mostS l E 7 s4 else (0, s4)) = (v, s5) := ⟨_, _, rfl⟩
  obtain ⟨z, s6, hz⟩ : ∃ z s6, (if valB k then signedS l E s5 else (0, s5)) = (z, s6) := ⟨_, _, rfl⟩
  obtain ⟨s7, h7⟩ : ∃ s7, s7 = if (decide (s6.bad = 0) && decide (s6.pos ≠ E)) = true then failS s6 s6.pos 2 else s6 := ⟨_, rfl⟩
  rw [bodyS_of (s := ⟨(p : Int), 0, wh⟩) hm h4 hv hz h7] at h ⊢
  dsimp only at h
  -- the end
  have h6 : s6.bad = 0 ∧ s6.pos = E := by
    by_cases hb : s6.bad = 0
    · refine ⟨hb, ?_⟩
      by_cases hpE : s6.pos = E
      · exact hpE
      · rw [if_pos (by simp [hb, hpE])] at h7
        rw [h7] at h
        unfold failS at h
        rw [if_pos hb] at h
        exact absurd h (by show ¬ ((2 : Int) = 0); decide)
    · rw [if_neg (by simp [hb])] at h7
      rw [h7] at h
      exact absurd h hb
  rw [if_neg (by simp [h6.2])] at h7
  -- the value
  have hZ : ∃ q : Nat, s5 = ⟨q, 0, s5.wh⟩ ∧ s6 = ⟨((q + (if valB k then putN (zigN z).toNat else []).length : Nat) : Int), 0, s5.wh⟩ ∧ At l q (if valB k then putN (zigN z).toNat else []) ∧ (-2147483648 ≤ z ∧ z ≤ 2147483647) ∧ (valB k = true ∨ z = 0) := by
    cases hvb : valB k with
    | true =>
      rw [hvb, if_pos rfl] at hz
      have hb : (signedS l E s5).2.bad = 0 := by rw [hz]; exact h6.1
      obtain ⟨q, z', a0, a1, a2, a3, a4⟩ := signed_inv hl hE hb
      rw [hz] at a2
      simp only [Prod.mk.injEq] at a2
      obtain ⟨rfl, a2⟩ := a2
      refine ⟨q, a0, ?_, ?_, a1, .inl rfl⟩
      · rw [if_pos rfl]; exact a2
      · rw [if_pos rfl]; exact a3
    | false =>
      rw [hvb, if_neg (by simp)] at hz
      simp only [Prod.mk.injEq] at hz
      obtain ⟨rfl, rfl⟩ := hz
      refine ⟨E, ?_, ?_, ?_, ⟨by decide, by decide⟩, .inr rfl⟩
      · obtain ⟨a, b, c⟩ := s5
        dsimp only at h6
        rw [h6.1, h6.2]
      · rw [if_neg (by simp)]
        obtain ⟨a, b, c⟩ := s5
        dsimp only at h6
        rw [h6.1, h6.2]; rfl
      · rw [if_neg (by simp)]; exact At.nil
  obtain ⟨q, b5, b6, bz, bzb, bz0⟩ := hZ
  have h5 : s5.bad = 0 := by rw [b5]
  -- the variable
  have hV : ∃ u : Nat, s4 = ⟨u, 0, s4.wh⟩ ∧ s5 = ⟨((u + (if varB k then putN v.toNat else []).length : Nat) : Int), 0, s4.wh⟩ ∧ At l u (if varB k then putN v.toNat else []) ∧ (0 ≤ v ∧ v ≤ 7) ∧ (varB k = true ∨ v = 0) := by
    cases hvb : varB k with
    | true =>
      rw [hvb, if_pos rfl] at hv
      have hb : (mostS l E 7 s4).2.bad = 0 := by rw [hv]; exact h5
      obtain ⟨u, m, a0, a1, a2, a3, a4⟩ := most_inv hl hE hb
      rw [hv] at a2
      simp only [Prod.mk.injEq] at a2
      obtain ⟨rfl, a2⟩ := a2
      refine ⟨u, a0, ?_, ?_, ⟨by omega, by omega⟩, .inl rfl⟩
      · rw [if_pos rfl, Int.toNat_natCast]; exact a2
      · rw [if_pos rfl, Int.toNat_natCast]; exact a3
    | false =>
      rw [hvb, if_neg (by simp)] at hv
      simp only [Prod.mk.injEq] at hv
      obtain ⟨rfl, rfl⟩ := hv
      refine ⟨q, b5, ?_, ?_, ⟨by decide, by decide⟩, .inr rfl⟩
      · rw [if_neg (by simp)]; exact b5
      · rw [if_neg (by simp)]; exact At.nil
  obtain ⟨u, b4, b5', bv, bvb, bv0⟩ := hV
  have h4b : s4.bad = 0 := by rw [b4]
  -- the name
  have hN : s4 = s2 ∧ s2.bad = 0 ∧ seventhB evs nm = false := by
    by_cases hc : (decide (s2.bad = 0) && seventhB evs nm) = true
    · rw [if_pos hc] at h4
      simp only [Bool.and_eq_true, decide_eq_true_eq] at hc
      rw [h4] at h4b
      unfold failS at h4b
      rw [if_pos hc.1] at h4b
      exact absurd h4b (by show ¬ ((5 : Int) = 0); decide)
    · rw [if_neg hc] at h4
      have hb2 : s2.bad = 0 := by rw [← h4]; exact h4b
      refine ⟨h4, hb2, ?_⟩
      rw [hb2] at hc
      simpa using hc
  obtain ⟨e42, hb2, hsev⟩ := hN
  have hbm : (mostS l E 9999 ⟨(p : Int) + 1, 0, wh⟩).2.bad = 0 := by rw [hm]; exact hb2
  obtain ⟨t, m, a0, a1, a2, a3, a4⟩ := most_inv hl hE hbm
  rw [hm] at a2
  simp only [Prod.mk.injEq] at a2
  obtain ⟨rfl, a2⟩ := a2
  have ht : t = p + 1 := by
    have := congrArg RSt.pos a0
    dsimp only at this
    omega
  subst ht
  try dsimp only at a2
  -- put together
  rw [e42, a2] at b4 b5'
  try dsimp only at b4
  try dsimp only at b5'
  have hu : u = p + 1 + (putN m).length := by
    have := congrArg RSt.pos b4
    dsimp only at this
    omega
  subst hu
  rw [b5'] at b5 b6
  try dsimp only at b5
  try dsimp only at b6
  have hq : q = p + 1 + (putN m).length + (if varB k then putN v.toNat else []).length := by
    have := congrArg RSt.pos b5
    dsimp only at this
    omega
  subst hq
  try dsimp only at b6
  have hpos : p + 1 + (putN m).length + (if varB k then putN v.toNat else []).length + (if valB k then putN (zigN z).toNat else []).length = E := by
    have := h6.2
    rw [b6] at this
    (try dsimp only at this); omega
  have hbody : bodyL ⟨k, (m : Int), v, z⟩ = (([k] ++ putN m) ++ (if varB k then putN v.toNat else [])) ++ (if valB k then putN (zigN z).toNat else []) := by
    unfold bodyL
    dsimp only
    rw [Int.toNat_natCast, show k % 256 = k by omega]
  refine ⟨⟨k, (m : Int), v, z⟩, ?_, ?_, ?_, ?_, hsev⟩
  · rw [h7, b6, hpos]
  · rw [hbody]
    refine At.app.2 ⟨At.app.2 ⟨At.app.2 ⟨hone, a3⟩, ?_⟩, ?_⟩
    · rw [show p + ([k] ++ putN m).length = p + 1 + (putN m).length by rw [List.length_append, List.length_singleton]; omega]; exact bv
    · rw [show p + (([k] ++ putN m) ++ (if varB k then putN v.toNat else [])).length = p + 1 + (putN m).length + (if varB k then putN v.toNat else []).length by rw [List.length_append, List.length_append, List.length_singleton]; omega]; exact bz
  · rw [hbody]
    simp only [List.length_append, List.length_singleton]
    omega
  · unfold rightB
    dsimp only
    rw [(inB_iff k 0 9).2 ⟨by omega, by omega⟩, (inB_iff (m : Int) 0 9999).2 ⟨by omega, by omega⟩, (inB_iff v 0 7).2 bvb, (inB_iff z _ _).2 bzb]
    rcases bv0 with h1 | h1 <;> rcases bz0 with h2 | h2 <;> simp [h1, h2]
theorem event_inv {l : List Int} (hl : ∀ x ∈ l, 0 ≤ x ∧ x ≤ 255) {s : RSt} {evs : List S34} (h : (evS l s evs).1.bad = 0) :
    ∃ (p : Nat) (ev : S34), s = ⟨p, 0, s.wh⟩ ∧ evS l s evs = (⟨((p + (partL ev).length : Nat) : Int), 0, s.wh⟩, evs ++ [ev]) ∧ At l p (partL ev) ∧ p + (partL ev).length ≤ l.length ∧ rightB ev = true ∧ seventhB evs ev.f1 = false := by
  unfold evS at h ⊢
  dsimp only at h ⊢
  by_cases hb : (numS l l.length s).2.bad ≠ 0
  · rw [if_pos hb] at h; exact absurd h hb
  · rw [if_neg hb] at h ⊢
    have hb' : (numS l l.length s).2.bad = 0 := by omega
    obtain ⟨p, m, v0, v1, v2, v3, v4, v5⟩ := num_inv hl (Nat.le_refl _) hb'
    rw [v3] at h ⊢
    dsimp only at h ⊢
    by_cases c1 : (l.length : Int) - ((p + (putN m).length : Nat) : Int) < (m : Int)
    · rw [if_pos c1] at h; exact absurd h (by show ¬ ((4 : Int) = 0); decide)
    · rw [if_neg c1] at h ⊢
      by_cases c2 : (m : Int) = 0
      · rw [if_pos c2] at h; exact absurd h (by show ¬ ((2 : Int) = 0); decide)
      · rw [if_neg c2] at h ⊢
        by_cases c3 : 10 ≤ rd l ((p + (putN m).length : Nat) : Int)
        · rw [if_pos c3] at h; exact absurd h (by show ¬ ((2 : Int) = 0); decide)
        · rw [if_neg c3] at h ⊢
          have hE : (((p + (putN m).length : Nat) : Int) + (m : Int)).toNat = p + (putN m).length + m := by omega
          rw [hE] at h ⊢
          obtain ⟨ev, b0, b1, b2, b3, b4⟩ := body_inv hl (by omega) (by omega) (by omega) h
          rw [b0]
          have hm : (bodyL ev).length = m := by omega
          have hpart : partL ev = putN m ++ bodyL ev := by unfold partL; rw [hm]
          refine ⟨p, ev, v0, ?_, ?_, ?_, b3, b4⟩
          · rw [hpart, List.length_append, hm, Nat.add_assoc]
          · rw [hpart]; exact At.app.2 ⟨v4, b1⟩
          · rw [hpart, List.length_append, hm]; omega
theorem loop_bad (l : List Int) (r : Nat) {s : RSt} {evs : List S34} (h : s.bad ≠ 0) : loopS l r s evs = (s, evs) := by
  cases r with
  | zero => rfl
  | succ r => unfold loopS; rw [if_neg h]
theorem loop_inv {l : List Int} (hl : ∀ x ∈ l, 0 ≤ x ∧ x ≤ 255) {wh : Int} (r : Nat) : ∀ (p : Nat) (evs : List S34), p ≤ l.length → (namesF evs).length ≤ 6 → (loopS l r ⟨p, 0, wh⟩ evs).1.bad = 0 →
    ∃ hs : List S34, loopS l r ⟨p, 0, wh⟩ evs = (⟨((p + (printL [] hs).length : Nat) : Int), 0, wh⟩, evs ++ hs) ∧ hs.length = r ∧ At l p (printL [] hs) ∧ p + (printL [] hs).length ≤ l.length ∧ (∀ e ∈ hs, rightB e = true) ∧ (namesF (evs ++ hs)).length ≤ 6 := by
  induction r with
  | zero =>
    intro p evs hp h6 _
    refine ⟨[], by simp [loopS, printL], rfl, At.nil, by simpa [printL] using hp, by simp, by simpa using h6⟩
  | succ r ih =>
    intro p evs hp h6 h
    unfold loopS at h ⊢
    rw [if_pos rfl] at h ⊢
    by_cases hb : (evS l ⟨p, 0, wh⟩ evs).1.bad = 0
    · obtain ⟨p', ev, a0, a1, a2, a3, a4, a5⟩ := event_inv hl hb
      have hp' : p' = p := by
        have := congrArg RSt.pos a0
        dsimp only at this
        omega
      subst hp'
      rw [a1] at h ⊢
      dsimp only at h ⊢
      obtain ⟨hs, b1, b2, b3, b4, b5, b6⟩ := ih (p' + (partL ev).length) (evs ++ [ev]) a3 (names_ok h6 a5) h
      refine ⟨ev :: hs, ?_, by rw [List.length_cons, b2], ?_, ?_, ?_, ?_⟩
      · rw [b1, List.append_assoc, bprint_cons, List.length_append, Nat.add_assoc]; rfl
      · rw [bprint_cons]; exact At.app.2 ⟨a2, b3⟩
      · rw [bprint_cons, List.length_append]; exact Nat.le_trans (by rw [Nat.add_assoc]; exact Nat.le_refl _) b4
      · intro x hx
        rcases List.mem_cons.1 hx with rfl | hx
        · exact a4
        · exact b5 x hx
      · rw [List.append_assoc] at b6; exact b6
    · rw [loop_bad l r hb] at h
      exact absurd h hb
theorem At.whole {l xs : List Int} (h : At l 0 xs) (hl : xs.length = l.length) : l = xs := by
  obtain ⟨r, h⟩ := h
  rw [List.drop_zero] at h
  have := congrArg List.length h
  rw [List.length_append] at this
  have : r = [] := List.eq_nil_of_length_eq_zero (by omega)
  rw [h, this, List.append_nil]
theorem rights_of {h : List S34} (h1 : h.length ≤ 60) (h2 : ∀ e ∈ h, rightB e = true) (h3 : (namesF h).length ≤ 6) : rightsB h = true := by
  unfold rightsB
  rw [decide_eq_true h1, decide_eq_true h3]
  have : (h.any fun x => !rightB x) = false := by
    rw [List.any_eq_false]
    intro x hx
    rw [h2 x hx]; simp
  rw [this]; rfl
theorem tell_bad {l : List Int} {y : List S34} {a k : Int} (h : tellS (parseS l) = (y, a, k)) (hk : k ≠ 0) : y = [] := by
  unfold tellS at h
  split at h
  · simp only [Prod.mk.injEq] at h
    exact absurd h.2.2.symm hk
  · simp only [Prod.mk.injEq] at h
    exact h.1.symm
theorem parse_inv {l : List Int} (hl : ∀ x ∈ l, 0 ≤ x ∧ x ≤ 255) {y : List S34} {a : Int} (h : tellS (parseS l) = (y, a, 0)) : rightsB y = true ∧ l = printL (putN y.length) y ∧ a = 0 := by
  obtain ⟨n, s, hn⟩ : ∃ n s, numS l l.length ⟨0, 0, 0⟩ = (n, s) := ⟨_, _, rfl⟩
  obtain ⟨s1, h1⟩ : ∃ s1, (if (decide (s.bad = 0) && decide (60 < n)) = true then failS s 0 5 else s) = s1 := ⟨_, rfl⟩
  obtain ⟨q, evs, hq⟩ : ∃ q evs, loopS l n.toNat s1 [] = (q, evs) := ⟨_, _, rfl⟩
  rw [parseS_of hn h1 hq] at h
  obtain ⟨q', hq'⟩ : ∃ q', q' = if (decide (q.bad = 0) && decide (q.pos ≠ (l.length : Int))) = true then failS q q.pos 2 else q := ⟨_, rfl⟩
  rw [← hq'] at h
  unfold tellS at h
  dsimp only at h
  by_cases hb' : q'.bad = 0
  · rw [if_pos hb'] at h
    simp only [Prod.mk.injEq] at h
    obtain ⟨rfl, rfl, _⟩ := h
    have hqq : q.bad = 0 ∧ q.pos = (l.length : Int) := by
      by_cases hb : q.bad = 0
      · refine ⟨hb, ?_⟩
        by_cases hp : q.pos = (l.length : Int)
        · exact hp
        · rw [if_pos (by simp [hb, hp])] at hq'
          rw [hq'] at hb'
          unfold failS at hb'
          rw [if_pos hb] at hb'
          exact absurd hb' (by show ¬ ((2 : Int) = 0); decide)
      · rw [if_neg (by simp [hb])] at hq'
        rw [hq'] at hb'
        exact absurd hb' hb
    have hsb : s1.bad = 0 := by
      by_cases hb : s1.bad = 0
      · exact hb
      · rw [loop_bad l _ hb] at hq
        simp only [Prod.mk.injEq] at hq
        rw [← hq.1] at hqq
        exact hqq.1
    have hs : s1 = s ∧ s.bad = 0 ∧ n ≤ 60 := by
      by_cases hc : (decide (s.bad = 0) && decide (60 < n)) = true
      · rw [if_pos hc] at h1
        simp only [Bool.and_eq_true, decide_eq_true_eq] at hc
        rw [← h1] at hsb
        unfold failS at hsb
        rw [if_pos hc.1] at hsb
        exact absurd hsb (by show ¬ ((5 : Int) = 0); decide)
      · rw [if_neg hc] at h1
        have hb2 : s.bad = 0 := by rw [h1]; exact hsb
        refine ⟨h1.symm, hb2, ?_⟩
        rw [hb2] at hc
        simp at hc
        omega
    obtain ⟨rfl, hb2, hn60⟩ := hs
    have hbn : (numS l l.length ⟨0, 0, 0⟩).2.bad = 0 := by rw [hn]; exact hb2
    obtain ⟨p, m, a0, a1, a2, a3, a4, a5⟩ := num_inv hl (Nat.le_refl _) hbn
    have hp0 : p = 0 := by
      have := congrArg RSt.pos a0
      dsimp only at this
      omega
    subst hp0
    rw [hn] at a3
    simp only [Prod.mk.injEq] at a3
    obtain ⟨rfl, rfl⟩ := a3
    rw [Int.toNat_natCast, Nat.zero_add] at hq
    have hlb : (loopS l m ⟨((putN m).length : Int), 0, 0⟩ []).1.bad = 0 := by rw [hq]; exact hqq.1
    obtain ⟨hs, b1, b2, b3, b4, b5, b6⟩ := loop_inv hl m (putN m).length [] (by omega) (by decide) hlb
    rw [hq] at b1
    simp only [Prod.mk.injEq, List.nil_append] at b1
    obtain ⟨hq1, rfl⟩ := b1
    rw [hq1] at hqq
    dsimp only at hqq
    refine ⟨rights_of (by omega) b5 (by simpa using b6), ?_, rfl⟩
    rw [bprint_acc, b2]
    refine At.whole (At.app.2 ⟨a4, by rw [Nat.zero_add]; exact b3⟩) ?_
    rw [List.length_append]
    omega
  · rw [if_neg hb'] at h
    simp only [Prod.mk.injEq] at h
    exact absurd h.2.2 hb'
end Go.Proofs.YthkpocgbinmeiaaDoor.U

/- The document's event and its Parse are ours. -/
import Derived.Test.YthkpocgbinmeiaaDoorUTextNum
import Derived.Test.YthkpocgbinmeiaaDoorURows
import Derived.Test.YthkpocgbinmeiaaDoorUWordR
import Derived.Test.YthkpocgbinmeiaaDoorP7
namespace Go.Proofs.YthkpocgbinmeiaaDoor.U
set_option linter.unusedVariables false
set_option linter.unusedSimpArgs false
open Go Go.RowKit Go.Proofs.YthkpocgbinmeiaaDoor.P Go.Proofs.YthkpocgbinmeiaaDoorW.PrintWords Go.Proofs.YthkpocgbinmeiaaDoorW.PrintLast Go.Proofs.YthkpocgbinmeiaaDoorW.PrintMore

/-- The document's event tells what ours does. -/
def relQ (r : Q8) (t : S34 × Int × Int) : Prop :=
  r.e = t.2.2 ∧ (t.2.2 = 0 → r.x0 = t.1.f0 ∧ r.x1 = t.1.f1 ∧ r.x2 = t.1.f2 ∧ r.x3 = t.1.f3) ∧ (t.2.2 ≠ 0 → r.a = t.2.1)
theorem relQ_bad {r : Q8} {a e : Int} {z : S34} (h1 : r.e = e) (h2 : r.a = a) (he : e ≠ 0) : relQ r (z, a, e) := ⟨h1, fun h => absurd h he, fun _ => h2⟩
theorem numQ_bad (ws : List ByteArray) (ats : List Int) (en : Int) (q : Q8) (lo hi : Int) (h : q.e ≠ 0) : numQ ws ats en q lo hi = q := by unfold numQ; rw [if_neg h]
theorem q2_bad (ws : List ByteArray) (ats : List Int) (en kd : Int) (q : Q8) (h : q.e ≠ 0) : (q2 ws ats en kd q).e = q.e ∧ (q2 ws ats en kd q).a = q.a := by
  unfold q2
  split
  · rw [numQ_bad _ _ _ _ _ _ h]; exact ⟨rfl, rfl⟩
  · exact ⟨rfl, rfl⟩
theorem q3_bad (ws : List ByteArray) (ats : List Int) (en kd : Int) (q : Q8) (h : q.e ≠ 0) : (q3 ws ats en kd q).e = q.e ∧ (q3 ws ats en kd q).a = q.a := by
  unfold q3
  split
  · rw [numQ_bad _ _ _ _ _ _ h]; exact ⟨rfl, rfl⟩
  · exact ⟨rfl, rfl⟩
theorem revQ_tev (ws : List ByteArray) (ats : List Int) (en : Int) (evs : List S34) : relQ (revQ ws ats en evs) (tev ws ats en evs) := by
  unfold revQ tev
  by_cases h60 : evs.length = 60
  · rw [if_pos h60, if_pos h60]; exact relQ_bad rfl rfl (by decide)
  · rw [if_neg h60, if_neg h60]
    obtain ⟨kd, hkd⟩ : ∃ kd, kd = kindW (rdOf ByteArray.empty ws 0) := ⟨_, rfl⟩
    rw [← hkd]
    by_cases hk0 : kd < 0
    · rw [if_pos hk0, if_pos hk0]; exact relQ_bad rfl rfl (by decide)
    · rw [if_neg hk0, if_neg hk0]
      dsimp only
      obtain ⟨t, ht⟩ : ∃ t, t = tnum ws ats en 1 0 9999 := ⟨_, rfl⟩
      have ha : q1 ws ats en kd = if t.2.2 = 0 then ⟨kd, t.1, 0, 0, 2, t.1, 0, 0⟩ else ⟨0, 0, 0, 0, 0, 0, t.2.1, t.2.2⟩ := by
        unfold q1 numQ
        dsimp only
        rw [if_pos rfl, ← ht]
        by_cases h : t.2.2 = 0
        · rw [if_pos h, if_pos h]; rfl
        · rw [if_neg h, if_neg h]
      rw [ha, ← ht]
      by_cases hb : t.2.2 = 0
      · rw [if_pos hb, if_neg (not_not_intro hb)]
        dsimp only
        rw [decide_eq_true (rfl : (0 : Int) = 0), Bool.true_and]
        cases hs : seventhB evs t.1 with
        | true =>
          rw [if_pos rfl, if_pos rfl]
          refine relQ_bad rfl ?_ (by decide)
          have hx : t.2.2 = 0 := hb
          rw [ht] at hx ⊢
          unfold tnum at hx ⊢
          by_cases hg : (1 : Int) ≥ (ws.length : Int)
          · rw [if_pos hg] at hx; cases hx
          · rw [if_neg hg]
            split <;> rfl
        | false =>
          rw [if_neg Bool.false_ne_true, if_neg Bool.false_ne_true]
          obtain ⟨v, hv⟩ : ∃ v, v = if varB kd = true then tnum ws ats en 2 0 7 else (0, 0, 0) := ⟨_, rfl⟩
          rw [← hv]
          have hvb : varB kd = true → v = tnum ws ats en 2 0 7 := fun h => by rw [hv, if_pos h]
          have hvn : ¬ varB kd = true → v = (0, 0, 0) := fun h => by rw [hv, if_neg h]
          by_cases hb2 : v.2.2 = 0
          · rw [if_neg (not_not_intro hb2)]
            have hq2 : ∃ n2, q2 ws ats en kd ⟨kd, t.1, 0, 0, 2, t.1, 0, 0⟩ = ⟨kd, t.1, v.1, 0, if varB kd = true then 3 else 2, n2, 0, 0⟩ := by
              unfold q2 numQ
              by_cases h : varB kd = true
              · rw [if_pos h, if_pos h]
                try dsimp only
                rw [if_pos rfl, ← hvb h, if_pos hb2]
                exact ⟨v.1, rfl⟩
              · rw [if_neg h, if_neg h, hvn h]
                exact ⟨t.1, rfl⟩
            obtain ⟨n2, hq2⟩ := hq2
            rw [hq2]
            obtain ⟨i, hi⟩ : ∃ i : Int, i = if varB kd = true then 3 else 2 := ⟨_, rfl⟩
            rw [← hi]
            obtain ⟨z, hz⟩ : ∃ z, z = if valB kd = true then tnum ws ats en i (-2147483648) 2147483647 else (0, 0, 0) := ⟨_, rfl⟩
            rw [← hz]
            have hzb : valB kd = true → z = tnum ws ats en i (-2147483648) 2147483647 := fun h => by rw [hz, if_pos h]
            have hzn : ¬ valB kd = true → z = (0, 0, 0) := fun h => by rw [hz, if_neg h]
            have hix : (1 + (if varB kd = true then 1 else 0) + (if valB kd = true then 1 else 0)) + 1 = i + if valB kd = true then 1 else 0 := by rw [hi]; split <;> split <;> rfl
            rw [hix]
            by_cases hb3 : z.2.2 = 0
            · rw [if_neg (not_not_intro hb3)]
              have hq3 : ∃ n3, q3 ws ats en kd ⟨kd, t.1, v.1, 0, i, n2, 0, 0⟩ = ⟨kd, t.1, v.1, z.1, i + (if valB kd = true then 1 else 0), n3, 0, 0⟩ := by
                unfold q3 numQ
                by_cases h : valB kd = true
                · rw [if_pos h, if_pos h]
                  try dsimp only
                  rw [if_pos rfl, ← hzb h, if_pos hb3]
                  exact ⟨z.1, rfl⟩
                · rw [if_neg h, if_neg h, hzn h, Int.add_zero]
                  exact ⟨n2, rfl⟩
              obtain ⟨n3, hq3⟩ := hq3
              rw [hq3]
              dsimp only
              by_cases hlt : (i + if valB kd = true then 1 else 0) < (ws.length : Int)
              · rw [if_pos ⟨rfl, hlt⟩, if_pos hlt]; exact relQ_bad rfl rfl (by decide)
              · rw [if_neg (fun h => hlt h.2), if_neg hlt]
                exact ⟨rfl, fun _ => ⟨rfl, rfl, rfl, rfl⟩, fun h => absurd rfl h⟩
            · rw [if_pos hb3]
              have hval : valB kd = true := by
                by_cases h : valB kd = true
                · exact h
                · rw [hzn h] at hb3; exact absurd rfl hb3
              have hq3 : q3 ws ats en kd ⟨kd, t.1, v.1, 0, i, n2, 0, 0⟩ = ⟨0, 0, 0, 0, 0, 0, z.2.1, z.2.2⟩ := by
                unfold q3 numQ
                rw [if_pos hval]
                try dsimp only
                rw [if_pos rfl, ← hzb hval, if_neg hb3]
              rw [hq3]
              dsimp only
              rw [if_neg (fun h => hb3 h.1)]
              exact relQ_bad rfl rfl hb3
          · rw [if_pos hb2]
            have hvar : varB kd = true := by
              by_cases h : varB kd = true
              · exact h
              · rw [hvn h] at hb2; exact absurd rfl hb2
            have hq2 : q2 ws ats en kd ⟨kd, t.1, 0, 0, 2, t.1, 0, 0⟩ = ⟨0, 0, 0, 0, 0, 0, v.2.1, v.2.2⟩ := by
              unfold q2 numQ
              rw [if_pos hvar]
              dsimp only
              rw [if_pos rfl, ← hvb hvar, if_neg hb2]
            rw [hq2]
            obtain ⟨h1, h2⟩ := q3_bad ws ats en kd ⟨0, 0, 0, 0, 0, 0, v.2.1, v.2.2⟩ hb2
            rw [if_neg (fun h => hb2 (h1.symm.trans h.1))]
            exact relQ_bad h1 h2 hb2
      · rw [if_neg hb, if_pos hb]
        dsimp only
        rw [decide_eq_false hb, Bool.false_and, if_neg Bool.false_ne_true]
        obtain ⟨h1, h2⟩ := q2_bad ws ats en kd ⟨0, 0, 0, 0, 0, 0, t.2.1, t.2.2⟩ hb
        obtain ⟨h3, h4⟩ := q3_bad ws ats en kd (q2 ws ats en kd ⟨0, 0, 0, 0, 0, 0, t.2.1, t.2.2⟩) (by rw [h1]; exact hb)
        rw [if_neg (fun h => hb ((h3.trans h1).symm.trans h.1))]
        exact relQ_bad (h3.trans h1) (h4.trans h2) hb
theorem rwords (x : ByteArray) (hx : x.size ≤ 100000) : Ev (fun k => recantref01_Words.f k x) (wsS x, atsS x) := by
  have := refwords_ev x hx
  rw [words_same] at this
  exact this
theorem rowend (s : ByteArray) (hs : s.size ≤ 3000) (fr i : Nat) (hfi : fr ≤ i) (his : i ≤ s.size) (out : List S34) (ho : out.length ≤ 60) (R : List ByteArray)
    (hrest : ∀ out' : List S34, out'.length ≤ 60 → Ev (fun k => recantref02_Parse.l0 k s out' ((i + 1 : Nat) : Int) ((i + 1 : Nat) : Int)) (linesT R ((i + 1 : Nat) : Int) out')) :
    Ev (fun k => recantref02_Parse.j1 k s out (fr : Int) (i : Int) false) (linesT (s.extract fr i :: R) (fr : Int) out) := by
  have hsz : (s.extract fr i).size = i - fr := by simp; omega
  obtain ⟨x, hx⟩ : ∃ x, x = s.extract fr i := ⟨_, rfl⟩
  rw [← hx] at hsz ⊢
  obtain ⟨K1, e1⟩ := rwords x (by omega)
  have hnx : (fr : Int) + ((x.size : Int) + 1) = ((i + 1 : Nat) : Int) := by omega
  have step : ∀ k, K1 ≤ k → recantref02_Parse.j1 (k + 1) s out (fr : Int) (i : Int) false = if ((wsS x).length : Int) > 0 then ((recantref02_event.f (wsS x) (atsS x) out (x.size : Int)).bind fun bt => (if bt.2.2.2.2.2.2.2 = 0 then (if out.length < 4398046511104 then (recantref02_Parse.l0 k s (out ++ [(⟨bt.1, bt.2.1, bt.2.2.1, bt.2.2.2.1⟩ : S34)]) ((i + 1 : Nat) : Int) ((i + 1 : Nat) : Int)) else (none)) else (some (([] : List S34), wrap64 ((fr : Int) + bt.2.2.2.2.2.2.1), bt.2.2.2.2.2.2.2)))) else (recantref02_Parse.l0 k s out ((i + 1 : Nat) : Int) ((i + 1 : Nat) : Int)) := by
    intro k hk
    have e1 := e1 k hk
    dsimp only at e1
    simp only [recantref02_Parse.j1]
    rw [if_neg Bool.false_ne_true, if_pos (by omega), if_pos (by omega), if_pos (by omega), Int.toNat_natCast, Int.toNat_natCast, ← hx, e1, Option.bind_some]
    dsimp only
    rw [w64 (by omega) (by omega), show ((i : Int) + 1) = ((i + 1 : Nat) : Int) by omega, w64 (by omega) (by omega), show (i : Int) - (fr : Int) = (x.size : Int) by omega]
  rw [linesT]
  have hwl := wsS_len x
  by_cases h0 : (wsS x).length = 0
  · rw [if_pos h0, hnx]
    obtain ⟨K2, e2⟩ := hrest out ho
    refine ⟨K1 + K2 + 1, fun k hk => ?_⟩
    obtain ⟨k, rfl⟩ : ∃ m, k = m + 1 := ⟨k - 1, by omega⟩
    dsimp only
    rw [step k (by omega), if_neg (by omega)]
    exact e2 k (by omega)
  · rw [if_neg h0, tev_shift (wsS x) (atsS x) (x.size : Int) (fr : Int) out hwl (by omega)]
    have hf : recantref02_event.f (wsS x) (atsS x) out (x.size : Int) = some ((revQ (wsS x) (atsS x) (x.size : Int) out).x0, (revQ (wsS x) (atsS x) (x.size : Int) out).x1, (revQ (wsS x) (atsS x) (x.size : Int) out).x2, (revQ (wsS x) (atsS x) (x.size : Int) out).x3, (revQ (wsS x) (atsS x) (x.size : Int) out).i, (revQ (wsS x) (atsS x) (x.size : Int) out).n, (revQ (wsS x) (atsS x) (x.size : Int) out).a, (revQ (wsS x) (atsS x) (x.size : Int) out).e) := by
      unfold recantref02_event.f
      rw [if_pos ⟨by omega, hwl, by have := wsS_le x; omega, by omega, fun y hy => by have := wsS_size x y hy; omega⟩]
    obtain ⟨hr1, hr2, hr3⟩ := revQ_tev (wsS x) (atsS x) (x.size : Int) out
    have hin := tev_in (wsS x) (atsS x) (x.size : Int) out hwl (by omega) (atsS_in x) (by omega)
    have h60 : (tev (wsS x) (atsS x) (x.size : Int) out).2.2 = 0 → out.length ≠ 60 := fun h => tev_bad5 (e := (tev (wsS x) (atsS x) (x.size : Int) out).1) (a := (tev (wsS x) (atsS x) (x.size : Int) out).2.1) (b := (tev (wsS x) (atsS x) (x.size : Int) out).2.2) rfl h
    obtain ⟨q, hq⟩ : ∃ q, q = revQ (wsS x) (atsS x) (x.size : Int) out := ⟨_, rfl⟩
    obtain ⟨t, ht⟩ : ∃ t, t = tev (wsS x) (atsS x) (x.size : Int) out := ⟨_, rfl⟩
    rw [← hq] at hf hr1 hr2 hr3
    rw [← ht] at hr1 hr2 hr3 hin h60 ⊢
    dsimp only
    by_cases hb : t.2.2 = 0
    · rw [if_neg (not_not_intro hb), hnx]
      obtain ⟨g0, g1, g2, g3⟩ := hr2 hb
      have h59 := h60 hb
      obtain ⟨K2, e2⟩ := hrest (out ++ [t.1]) (by simp; omega)
      refine ⟨K1 + K2 + 1, fun k hk => ?_⟩
      obtain ⟨k, rfl⟩ : ∃ m, k = m + 1 := ⟨k - 1, by omega⟩
      dsimp only
      rw [step k (by omega), if_pos (by omega), hf, Option.bind_some]
      dsimp only
      rw [if_pos (hr1.trans hb), if_pos (by omega), g0, g1, g2, g3]
      exact e2 k (by omega)
    · rw [if_pos hb, if_neg hb]
      have g := hr3 hb
      refine ⟨K1 + 1, fun k hk => ?_⟩
      obtain ⟨k, rfl⟩ : ∃ m, k = m + 1 := ⟨k - 1, by omega⟩
      dsimp only
      rw [step k (by omega), if_pos (by omega), hf, Option.bind_some]
      dsimp only
      rw [if_neg (fun h => hb (hr1.symm.trans h)), g, hr1, w64 (by omega) (by omega)]
/-- Behind a place of a text: a row and the rest. -/
theorem rparse (s : ByteArray) (hs : s.size ≤ 3000) (d : Nat) : ∀ (i : Nat) (p : List UInt8) (fr : Nat) (out : List S34), i + d = s.size → fr + p.length = i → (s.data.toList.drop fr).take p.length = p → (∀ c ∈ p, c ≠ 10) → out.length ≤ 60 →
    Ev (fun k => recantref02_Parse.l0 k s out (fr : Int) (i : Int)) (linesT (rowsS ⟨(s.data.toList.drop fr).toArray⟩) (fr : Int) out) := by
  have hlen := Lib.size_eq s
  induction d with
  | zero =>
    intro i p fr out hi hf hp hc ho
    have hpd : s.data.toList.drop fr = p := by rw [← hp, List.take_of_length_le (by simp; omega)]
    have hrow : rowsS ⟨(s.data.toList.drop fr).toArray⟩ = [s.extract fr i] := by
      rw [rows_one _ (by rw [hpd]; simpa using hc)]
      congr 1
      apply ext_list
      rw [Lib.extract_data]
      simp
      rw [List.take_of_length_le (by simp; omega)]
    rw [hrow]
    have hend : ∀ out' : List S34, out'.length ≤ 60 → Ev (fun k => recantref02_Parse.l0 k s out' ((i + 1 : Nat) : Int) ((i + 1 : Nat) : Int)) (linesT [] ((i + 1 : Nat) : Int) out') := by
      intro out' _
      refine ⟨1, fun k hk => ?_⟩
      obtain ⟨k, rfl⟩ : ∃ m, k = m + 1 := ⟨k - 1, by omega⟩
      simp only [recantref02_Parse.l0]
      rw [if_neg (by omega)]
      rfl
    obtain ⟨K, e⟩ := rowend s hs fr i (by omega) (by omega) out ho [] hend
    refine ⟨K + 1, fun k hk => ?_⟩
    obtain ⟨k, rfl⟩ : ∃ m, k = m + 1 := ⟨k - 1, by omega⟩
    simp only [recantref02_Parse.l0]
    rw [if_pos (by omega), if_neg (by omega)]
    exact e k (by omega)
  | succ d ih =>
    intro i p fr out hi hf hp hc ho
    have hlt : i < s.data.toList.length := by rw [← hlen]; omega
    have hdrop : s.data.toList.drop fr = p ++ s.data.toList[i] :: s.data.toList.drop (i + 1) := by
      have h1 : s.data.toList.drop fr = (s.data.toList.drop fr).take p.length ++ (s.data.toList.drop fr).drop p.length := (List.take_append_drop _ _).symm
      rw [hp, List.drop_drop, hf, List.drop_eq_getElem_cons hlt] at h1
      exact h1
    obtain ⟨c, hce⟩ : ∃ c, c = s.data.toList[i] := ⟨_, rfl⟩
    rw [← hce] at hdrop
    have hbt := (bt_get s i c (s.data.toList.drop (i + 1)) (by rw [List.drop_eq_getElem_cons hlt, hce])).2
    have hcl := c.toNat_lt
    have step : ∀ k, recantref02_Parse.l0 (k + 1) s out (fr : Int) (i : Int) = recantref02_Parse.j1 k s out (fr : Int) (i : Int) ((c.toNat : Int) != 10) := by
      intro k
      simp only [recantref02_Parse.l0]
      rw [if_pos (by omega), if_pos (by omega), if_pos (by omega), hbt]
    by_cases h10 : c = 10
    · subst h10
      have hrow : rowsS ⟨(s.data.toList.drop fr).toArray⟩ = s.extract fr i :: rowsS ⟨(s.data.toList.drop (i + 1)).toArray⟩ := by
        rw [rows_two ⟨(s.data.toList.drop fr).toArray⟩ p (s.data.toList.drop (i + 1)) (by simpa using hdrop) hc]
        congr 1
        apply ext_list
        rw [Lib.extract_data, show i - fr = p.length by omega, hp]
      rw [hrow]
      obtain ⟨K, e⟩ := rowend s hs fr i (by omega) (by omega) out ho _ (fun out' ho' => ih (i + 1) [] (i + 1) out' (by omega) (by simp) (by simp) (by simp) ho')
      refine ⟨K + 1, fun k hk => ?_⟩
      obtain ⟨k, rfl⟩ : ∃ m, k = m + 1 := ⟨k - 1, by omega⟩
      dsimp only
      rw [step k]
      exact e k (by omega)
    · have hn : ((c.toNat : Int) != 10) = true := by
        have : c.toNat ≠ 10 := fun h => h10 (UInt8.toNat_inj.1 (by rw [h]; rfl))
        simp
        omega
      obtain ⟨K, e⟩ := ih (i + 1) (p ++ [c]) fr out (by omega) (by simp; omega) (by
        rw [hdrop]
        simp [List.take_append, List.take_of_length_le]) (by
        intro y hy
        rcases List.mem_append.1 hy with h | h
        · exact hc y h
        · simp at h; subst h; exact h10) ho
      refine ⟨K + 2, fun k hk => ?_⟩
      obtain ⟨k, rfl⟩ : ∃ m, k = m + 1 + 1 := ⟨k - 2, by omega⟩
      dsimp only
      rw [step (k + 1), hn]
      simp only [recantref02_Parse.j1]
      rw [if_pos trivial, w64 (by omega) (by omega), show ((i : Int) + 1) = ((i + 1 : Nat) : Int) by omega]
      exact e k (by omega)
theorem rparse_f (s : ByteArray) (r : List S34 × Int × Int) (h : text_Parse.f s = some r) : Ev (fun k => recantref02_Parse.f k s) r := by
  unfold text_Parse.f at h
  have h := Option.some.inj h
  by_cases hs : s.size > 3000
  · rw [if_pos hs] at h
    refine ⟨0, fun k _ => ?_⟩
    dsimp only
    unfold recantref02_Parse.f
    rw [if_pos (by omega), ← h]
  · rw [if_neg hs] at h
    obtain ⟨K, e⟩ := rparse s (by omega) s.size 0 [] 0 [] (by omega) (by simp) (by simp) (by simp) (by simp)
    refine ⟨K, fun k hk => ?_⟩
    dsimp only
    unfold recantref02_Parse.f
    rw [if_neg (by omega)]
    have := e k hk
    dsimp only at this
    rw [show ((0 : Nat) : Int) = 0 from rfl] at this
    rw [this, ← h]
    congr 2
end Go.Proofs.YthkpocgbinmeiaaDoor.U

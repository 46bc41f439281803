/- The document's kind, number and event, plainly. -/
import Derived.Test.YthkpocgbinmeiaaDoorURef2
import Derived.Test.YthkpocgbinmeiaaDoorUIntRefA
import Derived.Test.YthkpocgbinmeiaaDoorGTEv2
import Derived.Test.YthkpocgbinmeiaaDoorP5
import Derived.Test.YthkpocgbinmeiaaDoorP6
namespace Go.Proofs.YthkpocgbinmeiaaDoor.U
set_option linter.unusedVariables false
set_option linter.unusedSimpArgs false
open Go Go.RowKit Go.Proofs.YthkpocgbinmeiaaDoor.P Go.Proofs.YthkpocgbinmeiaaDoorW.PrintWords Go.Proofs.YthkpocgbinmeiaaDoorW.PrintLast Go.Proofs.YthkpocgbinmeiaaDoorW.PrintMore

theorem rword (i : Nat) (h : i < 10) : recantref02_Word.f (i : Int) = some (wordK i) := by
  have : ∀ j : Fin 10, recantref02_Word.f ((j.val : Nat) : Int) = some (wordK j.val) := by decide +kernel
  exact this ⟨i, h⟩
theorem rkind_l (s : ByteArray) (d : Nat) : ∀ i : Nat, i + d = 10 → Ev (fun k => recantref02_kind.l0 k s (i : Int)) (kix s i d) := by
  induction d with
  | zero =>
    intro i hi
    refine ⟨1, fun k hk => ?_⟩
    obtain ⟨k, rfl⟩ : ∃ m, k = m + 1 := ⟨k - 1, by omega⟩
    simp only [recantref02_kind.l0]
    rw [if_neg (by omega)]; rfl
  | succ d ih =>
    intro i hi
    obtain ⟨K, e⟩ := ih (i + 1) (by omega)
    refine ⟨K + 1, fun k hk => ?_⟩
    obtain ⟨k, rfl⟩ : ∃ m, k = m + 1 := ⟨k - 1, by omega⟩
    have e := e k (by omega)
    dsimp only at e
    simp only [recantref02_kind.l0]
    rw [if_pos (by omega), rword i (by omega), Option.bind_some]
    unfold kix
    by_cases h : (wordK i).toList = s.toList
    · rw [if_pos h, if_pos (by unfold eqW; simpa using h)]
    · rw [if_neg h, if_neg (by unfold eqW; simpa using h), w64 (by omega) (by omega), show ((i : Int) + 1) = ((i + 1 : Nat) : Int) by omega]
      exact e
theorem rkind (s : ByteArray) : Ev (fun k => recantref02_kind.f k s) (kindW s) := rkind_l s 10 0 (by omega)
/-- The document's event so far. -/
structure Q8 where
  (x0 x1 x2 x3 i n a e : Int)
def Q8.cs (q : Q8) : Array Value := #[.int .i64 q.x0, .int .i64 q.x1, .int .i64 q.x2, .int .i64 q.x3, .int .i64 q.i, .int .i64 q.n, .int .i64 q.a, .int .i64 q.e]
/-- The next word's number. -/
def numQ (ws : List ByteArray) (ats : List Int) (en : Int) (q : Q8) (lo hi : Int) : Q8 :=
  if q.e = 0 then (if (tnum ws ats en q.i lo hi).2.2 = 0 then ⟨q.x0, q.x1, q.x2, q.x3, q.i + 1, (tnum ws ats en q.i lo hi).1, q.a, q.e⟩ else ⟨0, 0, 0, 0, 0, 0, (tnum ws ats en q.i lo hi).2.1, (tnum ws ats en q.i lo hi).2.2⟩) else q
def q1 (ws : List ByteArray) (ats : List Int) (en kd : Int) : Q8 := { numQ ws ats en ⟨kd, 0, 0, 0, 1, 0, 0, 0⟩ 0 9999 with x1 := (numQ ws ats en ⟨kd, 0, 0, 0, 1, 0, 0, 0⟩ 0 9999).n }
def q2 (ws : List ByteArray) (ats : List Int) (en kd : Int) (q : Q8) : Q8 := if varB kd = true then { numQ ws ats en q 0 7 with x2 := (numQ ws ats en q 0 7).n } else q
def q3 (ws : List ByteArray) (ats : List Int) (en kd : Int) (q : Q8) : Q8 := if valB kd = true then { numQ ws ats en q (-2147483648) 2147483647 with x3 := (numQ ws ats en q (-2147483648) 2147483647).n } else q
/-- The document's event. -/
def revQ (ws : List ByteArray) (ats : List Int) (en : Int) (evs : List S34) : Q8 :=
  if evs.length = 60 then ⟨0, 0, 0, 0, 0, 0, rd ats 0, 5⟩
  else if kindW (rdOf ByteArray.empty ws 0) < 0 then ⟨0, 0, 0, 0, 0, 0, rd ats 0, 2⟩
  else if (decide ((q1 ws ats en (kindW (rdOf ByteArray.empty ws 0))).e = 0) && seventhB evs (q1 ws ats en (kindW (rdOf ByteArray.empty ws 0))).n) = true then ⟨0, 0, 0, 0, 0, 0, rd ats 1, 5⟩
  else if (q3 ws ats en (kindW (rdOf ByteArray.empty ws 0)) (q2 ws ats en (kindW (rdOf ByteArray.empty ws 0)) (q1 ws ats en (kindW (rdOf ByteArray.empty ws 0))))).e = 0 ∧ (q3 ws ats en (kindW (rdOf ByteArray.empty ws 0)) (q2 ws ats en (kindW (rdOf ByteArray.empty ws 0)) (q1 ws ats en (kindW (rdOf ByteArray.empty ws 0))))).i < (ws.length : Int) then ⟨0, 0, 0, 0, 0, 0, rd ats (q3 ws ats en (kindW (rdOf ByteArray.empty ws 0)) (q2 ws ats en (kindW (rdOf ByteArray.empty ws 0)) (q1 ws ats en (kindW (rdOf ByteArray.empty ws 0))))).i, 2⟩
  else q3 ws ats en (kindW (rdOf ByteArray.empty ws 0)) (q2 ws ats en (kindW (rdOf ByteArray.empty ws 0)) (q1 ws ats en (kindW (rdOf ByteArray.empty ws 0))))
theorem q1_one {ws : List ByteArray} {ats : List Int} {en kd : Int} (h : (q1 ws ats en kd).e = 0) : 1 < ws.length := by
  unfold q1 numQ at h
  dsimp only at h
  rw [if_pos rfl] at h
  by_cases hg : (1 : Int) ≥ (ws.length : Int)
  · have ht : tnum ws ats en 1 0 9999 = (0, en, 4) := by unfold tnum; rw [if_pos hg]
    rw [ht, if_neg (show ¬ (4 : Int) = 0 by decide)] at h
    cases h
  · omega
theorem numQ_i (ws : List ByteArray) (ats : List Int) (en : Int) (q : Q8) (lo hi : Int) (m : Int) (h0 : 0 ≤ q.i) (hm : q.i ≤ m) (hm0 : 0 ≤ m) : 0 ≤ (numQ ws ats en q lo hi).i ∧ (numQ ws ats en q lo hi).i ≤ m + 1 := by
  unfold numQ
  split
  · split
    · exact ⟨by dsimp only; omega, by dsimp only; omega⟩
    · exact ⟨by dsimp only; omega, by dsimp only; omega⟩
  · omega
theorem q1_i (ws : List ByteArray) (ats : List Int) (en kd : Int) : 0 ≤ (q1 ws ats en kd).i ∧ (q1 ws ats en kd).i ≤ 2 := numQ_i ws ats en ⟨kd, 0, 0, 0, 1, 0, 0, 0⟩ 0 9999 1 (show (0 : Int) ≤ 1 by decide) (show (1 : Int) ≤ 1 by decide) (by decide)
theorem q2_i (ws : List ByteArray) (ats : List Int) (en kd : Int) (q : Q8) (h : 0 ≤ q.i ∧ q.i ≤ 2) : 0 ≤ (q2 ws ats en kd q).i ∧ (q2 ws ats en kd q).i ≤ 3 := by
  unfold q2
  split
  · exact numQ_i ws ats en q 0 7 2 h.1 h.2 (by decide)
  · omega
theorem q3_i (ws : List ByteArray) (ats : List Int) (en kd : Int) (q : Q8) (h : 0 ≤ q.i ∧ q.i ≤ 3) : 0 ≤ (q3 ws ats en kd q).i ∧ (q3 ws ats en kd q).i ≤ 4 := by
  unfold q3
  split
  · exact numQ_i ws ats en q _ _ 3 h.1 h.2 (by decide)
  · omega
theorem rnumQ (ws : List ByteArray) (ats : List Int) (en : Int) (q : Q8) (lo hi : Int) (hl : ws.length = ats.length) (hs : ∀ s ∈ ws, s.size ≤ 1000000) (hwl : ws.length ≤ 1000000) (hi0 : 0 ≤ q.i) :
    Ev (fun k => recantref02_number.f k ws ats q.x0 q.x1 q.x2 q.x3 q.i q.n q.a q.e lo hi en) ((numQ ws ats en q lo hi).x0, (numQ ws ats en q lo hi).x1, (numQ ws ats en q lo hi).x2, (numQ ws ats en q lo hi).x3, (numQ ws ats en q lo hi).i, (numQ ws ats en q lo hi).n, (numQ ws ats en q lo hi).a, (numQ ws ats en q lo hi).e) := by
  obtain ⟨x0, x1, x2, x3, i, n, a, e⟩ := q
  dsimp only at hi0 ⊢
  unfold numQ
  dsimp only
  by_cases he : e = 0
  · rw [if_pos he]
    by_cases hge : i ≥ (ws.length : Int)
    · have ht : tnum ws ats en i lo hi = (0, en, 4) := by unfold tnum; rw [if_pos hge]
      rw [ht]
      refine ⟨0, fun k _ => ?_⟩
      simp only [recantref02_number.f]
      rw [if_pos he, if_pos hge]
      rfl
    · obtain ⟨K, e1⟩ := rint_ev (rdOf ByteArray.empty ws i) (hs _ (rdOf_mem hi0 (by omega)))
      obtain ⟨v, hv⟩ : ∃ v, v = intVal (restOf (rdOf ByteArray.empty ws i)).data.toList (minusOf (rdOf ByteArray.empty ws i)) := ⟨_, rfl⟩
      rw [← hv] at e1
      have ht : tnum ws ats en i lo hi = if v.2 = 0 ∧ inB v.1 lo hi = false then (v.1, rd ats i, 3) else (v.1, rd ats i, v.2) := by unfold tnum; rw [if_neg hge, ← hv]
      refine ⟨K, fun k hk => ?_⟩
      have e1 := e1 k hk
      dsimp only at e1
      simp only [recantref02_number.f]
      rw [if_pos he, if_neg hge, if_pos hi0, if_pos (by omega), e1, Option.bind_some]
      by_cases h2 : v.2 = 0
      · rw [if_pos h2]
        by_cases hlo : v.1 < lo
        · have ht2 : tnum ws ats en i lo hi = (v.1, rd ats i, 3) := by rw [ht, if_pos ⟨h2, by unfold inB; simp; omega⟩]
          rw [if_pos hlo, if_pos (by omega), ht2, if_neg (show ¬ (3 : Int) = 0 by decide)]
        · rw [if_neg hlo]
          by_cases hhi : v.1 > hi
          · have ht2 : tnum ws ats en i lo hi = (v.1, rd ats i, 3) := by rw [ht, if_pos ⟨h2, by unfold inB; simp; omega⟩]
            rw [if_pos hhi, if_pos (by omega), ht2, if_neg (show ¬ (3 : Int) = 0 by decide)]
          · have ht2 : tnum ws ats en i lo hi = (v.1, rd ats i, v.2) := by rw [ht, if_neg (fun h => by have := h.2; unfold inB at this; simp at this; omega)]
            rw [if_neg hhi, ht2, if_pos h2, w64 (by omega) (by omega)]
      · have ht2 : tnum ws ats en i lo hi = (v.1, rd ats i, v.2) := by rw [ht, if_neg (fun h => h2 h.1)]
        rw [if_neg h2, if_pos (by omega), ht2, if_neg h2]
  · rw [if_neg he]
    refine ⟨0, fun k _ => ?_⟩
    simp only [recantref02_number.f]
    rw [if_neg he]
end Go.Proofs.YthkpocgbinmeiaaDoor.U

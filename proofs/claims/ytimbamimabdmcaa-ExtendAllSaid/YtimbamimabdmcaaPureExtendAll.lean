/- Proved: the rows that keep any order, how many there are, and the first one, are as the document says, or refused, for every input. No condition. -/
import Derived.Test.YtimbamimabdmcaaP9
import Derived.Test.YtimbamimabdmcaaUKeeps
namespace Go.Proofs.Ytimbamimabdmcaa.Pure
set_option linter.unusedVariables false
set_option linter.unusedSimpArgs false
open Go Go.RowKit Go.Proofs.Ytimbamimabdmcaa.P Go.Proofs.YtimbamimabdmcaaW.PrintWords Go.Proofs.YtimbamimabdmcaaW.PrintLast Go.Proofs.YtimbamimabdmcaaW.PrintMore Go.Proofs.Ytimbamimabdmcaa.U

theorem wf_u32x {x : Int} (h : (Lit.int .u32 x).wf = true) : 0 ≤ x ∧ x < 4294967296 := by
  have := bounds_u32 h; omega
theorem mn_takex {α : Type} (l : List α) (c : Int) (hc : 0 ≤ c) : 0 ≤ mn (l.length : Int) c ∧ mn (l.length : Int) c ≤ (l.length : Int) ∧ ((l.take (mn (l.length : Int) c).toNat).length : Int) ≤ c := by
  unfold mn
  refine ⟨by split <;> omega, by split <;> omega, ?_⟩
  rw [List.length_take]
  split <;> omega
theorem all_402 : extend_All.f [4, 0, 0] = some ([[0, 1, 2], [0, 2, 1], [1, 0, 2]], 0) := by decide +kernel
theorem alive11 : Ev (fun k => recantlaw11_alive.f k) true := by
  obtain ⟨K, e⟩ := ints_f [1, 0, 2] [1, 0, 2] (by decide)
  refine ⟨K, fun k hk => ?_⟩
  simp only [recantlaw11_alive.f]
  rw [all_402, Option.bind_some, if_pos rfl, if_pos (by decide), if_pos (by decide)]
  have := e k hk
  dsimp only at this ⊢
  rw [show rd_L3 [[0, 1, 2], [0, 2, 1], [1, 0, 2]] 2 = ([1, 0, 2] : List Int) from rfl, this]; rfl
theorem same_ev (xs : List (List Int)) (hx : ∀ r ∈ xs, r.length < 1000000) (hl : xs.length < 1000000) (d : Nat) : ∀ i : Nat, i + d = xs.length → Ev (fun k => recantlaw11_ExtendAll.l0 k xs xs (xs.length : Int) (i : Int)) true := by
  induction d with
  | zero =>
    intro i hi
    refine ⟨1, fun k hk => ?_⟩
    obtain ⟨k, rfl⟩ : ∃ m, k = m + 1 := ⟨k - 1, by omega⟩
    simp only [recantlaw11_ExtendAll.l0]
    rw [if_neg (by omega)]
  | succ d ih =>
    intro i hi
    obtain ⟨K, e⟩ := ih (i + 1) (by omega)
    have hmem : xs[i]'(by omega) ∈ xs := List.getElem_mem _
    obtain ⟨K2, e2⟩ := ints_f (xs[i]'(by omega)) (xs[i]'(by omega)) (hx _ hmem)
    refine ⟨K + K2 + 1, fun k hk => ?_⟩
    obtain ⟨k, rfl⟩ : ∃ m, k = m + 1 := ⟨k - 1, by omega⟩
    simp only [recantlaw11_ExtendAll.l0]
    have e2' := e2 k (by omega)
    dsimp only at e2'
    rw [if_pos (by omega), if_pos (by omega), if_pos (by omega), if_pos (by omega), rd3 xs i (by omega), e2', Option.bind_some, decide_eq_true rfl, if_pos rfl, w64 (by omega) (by omega), show ((i : Int) + 1) = ((i + 1 : Nat) : Int) by omega]
    exact e k (by omega)
theorem ExtendAll : recantlaw11_ExtendAll.Pure := by
  intro m0 _ _ hw0
  obtain ⟨t1, t2, t3⟩ := mn_takex m0 8 (by decide)
  obtain ⟨l0, hl0⟩ : ∃ l, l = m0.take (mn (m0.length : Int) 8).toNat := ⟨_, rfl⟩
  rw [← hl0] at t3
  have hu : InU l0 := fun x hx => wf_u32x (hw0 x (by rw [hl0] at hx; exact List.mem_of_mem_take hx))
  have fa : extend_All.f l0 = some (if mayE l0 = 0 then extR l0 l0.length [] else [], mayE l0) := by unfold extend_All.f; rw [if_pos (show ∀ x ∈ l0, 0 ≤ x ∧ x < 4294967296 from hu)]
  have fc : extend_Count.f l0 = some (if mayE l0 = 0 then ((extR l0 l0.length []).length : Int) else 0, mayE l0) := by unfold extend_Count.f; rw [if_pos (show ∀ x ∈ l0, 0 ≤ x ∧ x < 4294967296 from hu)]
  have ff : extend_First.f l0 = some (if mayE l0 = 0 then (extR l0 l0.length []).headD [] else [], mayE l0) := by unfold extend_First.f; rw [if_pos (show ∀ x ∈ l0, 0 ≤ x ∧ x < 4294967296 from hu)]
  obtain ⟨Km, em⟩ := may11_f l0 hu
  obtain ⟨Ka, ea⟩ := alive11
  dsimp only at em ea
  by_cases hm : mayE l0 = 0
  · obtain ⟨hn, hcy⟩ := mayE_zero hm
    have hne : extR l0 l0.length [] ≠ [] := of_decide_eq_false hcy
    obtain ⟨Kl, el⟩ := all_f l0 hu hn hne
    obtain ⟨L, hL⟩ : ∃ L, L = extR l0 l0.length [] := ⟨_, rfl⟩
    have hlen : L.length ≤ 46656 := by rw [hL]; exact ext_len l0 hn
    have hin : ∀ r ∈ L, r.length < 1000000 := fun r hr => by
      rw [hL] at hr
      have := (rows_in _ _ r ((mem_ext l0 r).1 hr).1).1
      omega
    rw [if_pos hm, ← hL] at fa fc ff
    rw [← hL] at el hne
    obtain ⟨x, t, rfl⟩ : ∃ x t, L = x :: t := by
      cases L with
      | nil => exact absurd rfl hne
      | cons x t => exact ⟨x, t, rfl⟩
    obtain ⟨Ki, ei⟩ := ints_f x x (hin x (by simp))
    obtain ⟨Ks, es⟩ := same_ev (x :: t) hin (by omega) (x :: t).length 0 (by omega)
    dsimp only at el ei es
    have hj : ∀ k, Ks + 1 ≤ k → recantlaw11_ExtendAll.j0 k (x :: t) (x :: t) false = some true := by
      intro k hk
      obtain ⟨k, rfl⟩ : ∃ m, k = m + 1 := ⟨k - 1, by omega⟩
      simp only [recantlaw11_ExtendAll.j0]
      rw [if_neg (by simp)]
      exact es k (by omega)
    rw [hm] at fa fc ff em
    refine ⟨Km + Ka + Kl + Ki + Ks + 1, ?_⟩
    simp only [recantlaw11_ExtendAll.f]
    rw [if_pos t1, if_pos t2, ← hl0, Option.bind_some, fa, Option.bind_some, fc, Option.bind_some, ff, Option.bind_some, em _ (by omega), Option.bind_some, if_pos rfl, el _ (by omega), Option.bind_some]
    dsimp only
    rw [if_pos rfl, if_pos rfl, if_pos rfl, if_pos rfl, if_pos rfl, if_pos (by simp), show rd_L3 (x :: t) 0 = x from rfl, show (x :: t).headD [] = x from rfl, ei _ (by omega), Option.bind_some, decide_eq_true rfl, if_pos rfl, ea _ (by omega), Option.bind_some]
    exact hj _ (by omega)
  · rw [if_neg hm] at fa fc ff
    refine ⟨Km + Ka, ?_⟩
    simp only [recantlaw11_ExtendAll.f]
    rw [if_pos t1, if_pos t2, ← hl0, Option.bind_some, fa, Option.bind_some, fc, Option.bind_some, ff, Option.bind_some, em _ (by omega), Option.bind_some, if_neg hm, ea _ (by omega), Option.bind_some]
    dsimp only
    rw [if_pos rfl, if_pos rfl, if_pos rfl, if_pos rfl, if_pos (by simp), if_pos rfl]
    rfl
end Go.Proofs.Ytimbamimabdmcaa.Pure

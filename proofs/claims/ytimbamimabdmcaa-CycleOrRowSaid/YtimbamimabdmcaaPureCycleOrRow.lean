/- Proved: the least cycle is one, and begins with its least place; there is one, just if no row keeps all edges; turned on it is one still; for every input. No condition. -/
import Derived.Test.YtimbamimabdmcaaP11
import Derived.Test.YtimbamimabdmcaaUKeeps
import Derived.Test.YtimbamimabdmcaaULex
namespace Go.Proofs.Ytimbamimabdmcaa.Pure
set_option linter.unusedVariables false
set_option linter.unusedSimpArgs false
open Go Go.RowKit Go.Proofs.Ytimbamimabdmcaa.P Go.Proofs.YtimbamimabdmcaaW.PrintWords Go.Proofs.YtimbamimabdmcaaW.PrintLast Go.Proofs.YtimbamimabdmcaaW.PrintMore Go.Proofs.Ytimbamimabdmcaa.U

theorem wf_u32y {x : Int} (h : (Lit.int .u32 x).wf = true) : 0 ≤ x ∧ x < 4294967296 := by
  have := bounds_u32 h; omega
theorem mn_takey {α : Type} (l : List α) (c : Int) (hc : 0 ≤ c) : 0 ≤ mn (l.length : Int) c ∧ mn (l.length : Int) c ≤ (l.length : Int) ∧ ((l.take (mn (l.length : Int) c).toNat).length : Int) ≤ c := by
  unfold mn
  refine ⟨by split <;> omega, by split <;> omega, ?_⟩
  rw [List.length_take]
  split <;> omega
/-! ### turned on -/
def turn (c : List Int) (k : Nat) : List Int := c.drop k ++ c.take k
theorem turn_len (c : List Int) (k : Nat) : (turn c k).length = c.length := by unfold turn; simp; omega
theorem turn_rd (c : List Int) (k : Nat) (hk : k < c.length) (j : Nat) (hj : j < c.length) : rd (turn c k) (j : Int) = rd c (((j + k) % c.length : Nat) : Int) := by
  have h1 := rd_some (l := turn c k) (i := j) (by rw [turn_len]; exact hj)
  have h2 := rd_some (l := c) (i := (j + k) % c.length) (Nat.mod_lt _ (by omega))
  unfold turn at h1
  rcases Nat.lt_or_ge j (c.length - k) with h | h
  · rw [List.getElem?_append_left (by simp; omega), List.getElem?_drop, show k + j = (j + k) % c.length by rw [Nat.mod_eq_of_lt (by omega)]; omega] at h1
    rw [h2] at h1
    exact (Option.some.inj h1).symm
  · rw [List.getElem?_append_right (by simp; omega), List.getElem?_take_of_lt (by simp; omega)] at h1
    have h3 : j - (c.drop k).length = (j + k) % c.length := by
      rw [List.length_drop, Nat.mod_eq_sub_mod (by omega), Nat.mod_eq_of_lt (by omega)]; omega
    rw [h3, h2] at h1
    exact (Option.some.inj h1).symm
theorem turn_mem (c : List Int) (k : Nat) (x : Int) (h : x ∈ turn c k) : x ∈ c := by
  rcases List.mem_append.1 h with h | h
  · exact List.mem_of_mem_drop h
  · exact List.mem_of_mem_take h
theorem turn_nodup (c : List Int) (k : Nat) (h : c.Nodup) : (turn c k).Nodup := by
  have h1 : (c.take k ++ c.drop k).Nodup := by rw [List.take_append_drop]; exact h
  rw [List.nodup_append] at h1
  unfold turn
  rw [List.nodup_append]
  exact ⟨h1.2.1, h1.1, fun a ha b hb e => h1.2.2 b hb a ha e.symm⟩
theorem not_before (c : List Int) (h : c.Nodup) (j : Nat) (hj : j < c.length) : (c.take j).contains (rd c (j : Int)) = false := by
  rw [← Bool.not_eq_true, List.contains_iff_mem]
  intro hm
  obtain ⟨q, h1, h2, h3⟩ := mem_take_pos hm
  have := nodup_pos h h2 hj h3
  omega
theorem walk_iff (l0 c : List Int) (h : c.Nodup) : walkS l0 c = true ↔ (0 < c.length ∧ ∀ j, j < c.length → bitB (rd l0 (rd c (j : Int))) (rd c (((j + 1) % c.length : Nat) : Int)).toNat = true) := by
  unfold walkS
  rw [okFrom_iff]
  constructor
  · rintro ⟨h1, h2⟩
    refine ⟨h1, fun j hj => ?_⟩
    have := h2 j (Nat.zero_le _) (by omega)
    unfold okAt at this
    rw [Bool.and_eq_true] at this
    exact this.2
  · rintro ⟨h1, h2⟩
    refine ⟨h1, fun j _ hj => ?_⟩
    unfold okAt
    rw [not_before c h j (by omega), h2 j (by omega)]; rfl
theorem turn_walk (l0 c : List Int) (h : c.Nodup) (k : Nat) (hk : k < c.length) (hw : walkS l0 c = true) : walkS l0 (turn c k) = true := by
  rw [walk_iff l0 c h] at hw
  rw [walk_iff l0 _ (turn_nodup c k h), turn_len]
  refine ⟨hw.1, fun j hj => ?_⟩
  rw [turn_rd c k hk j hj, turn_rd c k hk _ (Nat.mod_lt _ (by omega))]
  have := hw.2 ((j + k) % c.length) (Nat.mod_lt _ (by omega))
  have e : ((j + 1) % c.length + k) % c.length = ((j + k) % c.length + 1) % c.length := by
    rw [Nat.mod_add_mod, Nat.mod_add_mod]; congr 1; omega
  rw [e]
  exact this
theorem head_least (l0 : List Int) (hf : (resS l0 l0.length 1).2 = 0) : ∀ x ∈ (resS l0 l0.length 1).1, rd (resS l0 l0.length 1).1 0 ≤ x := by
  obtain ⟨L, h1, h2, h3, h4⟩ := res_found l0 l0.length 1 hf
  obtain ⟨c, hc⟩ : ∃ c, c = (resS l0 l0.length 1).1 := ⟨_, rfl⟩
  rw [← hc] at h3 h4 ⊢
  obtain ⟨ha, hb, hcn⟩ := rows_in _ _ c h3
  intro x hx
  obtain ⟨k, hk, e⟩ := List.mem_iff_getElem.1 hx
  have hke : rd c (k : Int) = x := by
    have := rd_some hk
    rw [List.getElem?_eq_getElem hk] at this
    rw [← Option.some.inj this, e]
  have ht : turn c k ∈ rowsR l0.length L := rows_all _ _ _ (by rw [turn_len]; exact ha) (turn_nodup c k hb) (fun y hy => hcn y (turn_mem c k y hy))
  obtain ⟨_, h5⟩ := res_least l0 l0.length 1 (turn c k) L h1 h2 ht (turn_walk l0 c hb k hk h4)
  rw [← hc, turn_len] at h5
  have ht0 := turn_rd c k hk 0 (by omega)
  rw [Nat.zero_add, Nat.mod_eq_of_lt hk, hke] at ht0
  rcases h5 with h5 | ⟨_, h5 | h5⟩
  · omega
  · rw [← h5] at ht0; exact Int.le_of_eq ht0
  · have hp : 0 < c.length := by omega
    have hp2 : 0 < (turn c k).length := by rw [turn_len]; exact hp
    cases hcc : c with
    | nil => rw [hcc] at hp; simp at hp
    | cons a s =>
      cases htt : turn c k with
      | nil => rw [htt] at hp2; simp at hp2
      | cons b t =>
        rw [htt] at h5 ht0
        have h6 : lexLt (a :: s) (b :: t) := by rw [← hcc]; exact h5
        have h7 : b = x := ht0
        show a ≤ x
        rcases h6 with h6 | ⟨h6, _⟩ <;> omega
theorem min_ev (l : List Int) (hl : l.length < 1000000) (hm : ∀ x ∈ l, rd l 0 ≤ x) (d : Nat) : ∀ i : Nat, i + d = l.length → Ev (fun k => slices_Min_int_int.l0 k l (rd l 0) (i : Int)) (rd l 0) := by
  induction d with
  | zero =>
    intro i hi
    refine ⟨1, fun k hk => ?_⟩
    obtain ⟨k, rfl⟩ : ∃ m, k = m + 1 := ⟨k - 1, by omega⟩
    simp only [slices_Min_int_int.l0]
    rw [if_neg (by omega)]
  | succ d ih =>
    intro i hi
    obtain ⟨K, e⟩ := ih (i + 1) (by omega)
    have h1 := hm _ (rd_mem (l := l) (i := i) (by omega))
    refine ⟨K + 1, fun k hk => ?_⟩
    obtain ⟨k, rfl⟩ : ∃ m, k = m + 1 := ⟨k - 1, by omega⟩
    simp only [slices_Min_int_int.l0]
    rw [if_pos (by omega), if_pos (by omega), show mn (rd l 0) (rd l (i : Int)) = rd l 0 by unfold mn; split <;> omega, w64 (by omega) (by omega), show ((i : Int) + 1) = ((i + 1 : Nat) : Int) by omega]
    exact e k (by omega)
theorem turns_ev (l0 c : List Int) (hu : InU l0) (hn : l0.length ≤ 6) (hm : mayB l0 = true) (hnd : c.Nodup) (hcn : InN l0.length c) (hl : c.length ≤ 6) (hw : walkS l0 c = true) (d : Nat) : ∀ i : Nat, i + d = c.length → Ev (fun k => recantlaw18_CycleOrRow.l0 k l0 c (c.length : Int) (i : Int)) true := by
  induction d with
  | zero =>
    intro i hi
    refine ⟨1, fun k hk => ?_⟩
    obtain ⟨k, rfl⟩ : ∃ m, k = m + 1 := ⟨k - 1, by omega⟩
    simp only [recantlaw18_CycleOrRow.l0]
    rw [if_neg (by omega)]
  | succ d ih =>
    intro i hi
    obtain ⟨K, e⟩ := ih (i + 1) (by omega)
    have hcat : slices_Concat_int_int.f [c.drop i, c.take i] = some (turn c i) := by
      unfold slices_Concat_int_int.f
      rw [if_pos (by simp; omega)]
      simp [turn]
    have hin : InN l0.length (turn c i) := fun y hy => hcn y (turn_mem c i y hy)
    have hwf : cycle_Walk.f l0 (turn c i) = some (true, 0) := by
      unfold cycle_Walk.f
      rw [if_pos (show ∀ x ∈ l0, 0 ≤ x ∧ x < 4294967296 from hu), if_pos hm, if_neg, walk_eq l0 _ hu hn hin, turn_walk l0 c hnd i (by omega) hw]
      rw [Bool.not_eq_true, List.any_eq_false]
      intro x hx
      have := hin x hx
      simp; omega
    refine ⟨K + 1, fun k hk => ?_⟩
    obtain ⟨k, rfl⟩ : ∃ m, k = m + 1 := ⟨k - 1, by omega⟩
    simp only [recantlaw18_CycleOrRow.l0]
    rw [if_pos (by omega), if_pos (by omega), if_pos (by omega), Int.toNat_natCast, hcat, Option.bind_some, hwf, Option.bind_some, if_pos rfl, if_pos rfl, w64 (by omega) (by omega), show ((i : Int) + 1) = ((i + 1 : Nat) : Int) by omega]
    exact e k (by omega)
theorem CycleOrRow : recantlaw18_CycleOrRow.Pure := by
  intro m0 _ _ hw0
  obtain ⟨t1, t2, t3⟩ := mn_takey m0 8 (by decide)
  obtain ⟨l0, hl0⟩ : ∃ l, l = m0.take (mn (m0.length : Int) 8).toNat := ⟨_, rfl⟩
  rw [← hl0] at t3
  have hu : InU l0 := fun x hx => wf_u32y (hw0 x (by rw [hl0] at hx; exact List.mem_of_mem_take hx))
  have fc : extend_Count.f l0 = some (if mayE l0 = 0 then ((extR l0 l0.length []).length : Int) else 0, mayE l0) := by unfold extend_Count.f; rw [if_pos (show ∀ x ∈ l0, 0 ≤ x ∧ x < 4294967296 from hu)]
  have hlf := least_f l0 hu
  obtain ⟨Ka, ea⟩ := alive18
  dsimp only at ea
  by_cases hm : mayB l0 = true
  · have hn : l0.length ≤ 6 := by unfold mayB at hm; simp only [Bool.and_eq_true, decide_eq_true_eq] at hm; exact hm.1
    rw [if_pos hm] at hlf
    obtain ⟨q1, q2, q3⟩ := res_none l0 l0.length 1 (Nat.le_refl _)
    rcases q2 with q2 | q2
    · obtain ⟨L, h1, h2, h3, h4⟩ := res_found l0 l0.length 1 q2
      have hml := head_least l0 q2
      obtain ⟨c, hc⟩ : ∃ c, c = (resS l0 l0.length 1).1 := ⟨_, rfl⟩
      have hrs : resS l0 l0.length 1 = (c, 0) := by rw [hc, ← q2]
      rw [← hc] at h3 h4 hml
      obtain ⟨ha, hb, hcn⟩ := rows_in _ _ c h3
      have hcy : cycB l0 = true := by
        rcases ext_or_cycle l0 hu hn with ⟨_, h⟩ | ⟨h, _⟩
        · exact absurd ⟨c, hcn, h4⟩ h
        · exact decide_eq_true h
      have he : mayE l0 = 8 := by unfold mayE; rw [if_pos hm, if_pos hcy]
      rw [he] at fc
      rw [hrs] at hlf
      obtain ⟨Km, em⟩ := min_ev c (by omega) hml (c.length - 1) 1 (by omega)
      obtain ⟨Kt, et⟩ := turns_ev l0 c hu hn hm hb hcn (by omega) h4 c.length 0 (by omega)
      dsimp only at em et
      refine ⟨Ka + Km + Kt + 1, ?_⟩
      simp only [recantlaw18_CycleOrRow.f, slices_Min_int_int.f]
      rw [if_pos t1, if_pos t2, ← hl0, Option.bind_some, hlf, Option.bind_some, fc, Option.bind_some]
      dsimp only
      rw [if_neg (by decide), if_neg (by decide), if_pos rfl, if_pos rfl, if_neg (by omega), if_neg (by omega), if_pos (by omega)]
      have em' := em (Ka + Km + Kt + 1) (by omega)
      rw [show ((1 : Nat) : Int) = 1 from rfl] at em'
      rw [em', Option.bind_some, if_pos (by omega), if_pos rfl, ea _ (by omega), Option.bind_some]
      simp only [recantlaw18_CycleOrRow.j0, Bool.not_true, Bool.false_eq_true, if_false]
      exact et _ (by omega)
    · have hne : extR l0 l0.length [] ≠ [] := by
        rcases ext_or_cycle l0 hu hn with ⟨h, _⟩ | ⟨_, c, hp, hnd, hcn, hw⟩
        · exact h
        · have hlen : c.length ≤ l0.length := OutOK.len ⟨hnd, hcn⟩
          obtain ⟨h0, _⟩ := res_least l0 l0.length 1 c c.length hp (by omega) (rows_all _ _ c rfl hnd hcn) hw
          rw [q2] at h0; cases h0
      have hcy : cycB l0 = false := decide_eq_false hne
      have he : mayE l0 = 0 := by unfold mayE; rw [if_pos hm, hcy]; rfl
      have hpos : 0 < (extR l0 l0.length []).length := List.length_pos_iff.2 hne
      rw [he, if_pos rfl] at fc
      refine ⟨Ka, ?_⟩
      simp only [recantlaw18_CycleOrRow.f]
      rw [if_pos t1, if_pos t2, ← hl0, Option.bind_some, hlf, Option.bind_some, fc, Option.bind_some, q2]
      dsimp only
      rw [if_neg (by decide), if_pos rfl, ea _ (by omega), Option.bind_some, if_pos rfl, if_pos rfl, decide_eq_true (by omega)]
  · rw [if_neg hm] at hlf
    have he : mayE l0 = 1 := by unfold mayE; rw [if_neg hm]
    rw [he] at fc
    refine ⟨Ka, ?_⟩
    simp only [recantlaw18_CycleOrRow.f]
    rw [if_pos t1, if_pos t2, ← hl0, Option.bind_some, hlf, Option.bind_some, fc, Option.bind_some]
    dsimp only
    rw [if_pos rfl, ea _ (by omega), Option.bind_some, if_pos rfl]
    rfl
end Go.Proofs.Ytimbamimabdmcaa.Pure

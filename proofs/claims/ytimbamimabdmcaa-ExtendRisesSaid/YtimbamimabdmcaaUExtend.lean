/- Plain lemmas on the rows that keep an order. -/
import Derived.Test.YtimbamimabdmcaaUCycle
namespace Go.Proofs.Ytimbamimabdmcaa.U
set_option linter.unusedVariables false
set_option linter.unusedSimpArgs false
open Go Go.RowKit Go.Proofs.Ytimbamimabdmcaa.P Go.Proofs.YtimbamimabdmcaaW.PrintWords Go.Proofs.YtimbamimabdmcaaW.PrintLast Go.Proofs.YtimbamimabdmcaaW.PrintMore

/-- No place that is not in the row asks to be before k (k itself counts). -/
def freeS (l0 row : List Int) (k : Nat) : Bool := (List.range l0.length).all fun (i : Nat) => row.contains (i : Int) || !bitB (rd l0 (i : Int)) k
def extR (l0 : List Int) : Nat → List Int → List (List Int)
  | 0, row => [row]
  | d + 1, row => (List.range l0.length).flatMap fun (k : Nat) => if !row.contains (k : Int) && freeS l0 row k then extR l0 d (row ++ [(k : Int)]) else []
def rowsFrom (n : Nat) : Nat → List Int → List (List Int)
  | 0, row => [row]
  | d + 1, row => (nexts n row (List.range n)).flatMap (rowsFrom n d)
theorem rows_from (n d : Nat) : ∀ L, rowsR n (L + d) = (rowsR n L).flatMap (rowsFrom n d) := by
  induction d with
  | zero => intro L; simp [rowsFrom]
  | succ d ih =>
    intro L
    rw [show L + (d + 1) = (L + 1) + d by omega, ih (L + 1)]
    simp only [rowsR]
    rw [List.flatMap_assoc]
    rfl
/-- Each place was free when it was taken. -/
def allFree (l0 r : List Int) (L : Nat) : Bool := (List.range L).all fun (p : Nat) => freeS l0 (r.take p) (rd r (p : Int)).toNat
theorem from_prefix (n d : Nat) : ∀ row r, r ∈ rowsFrom n d row → row <+: r ∧ r.length = row.length + d := by
  induction d with
  | zero => intro row r h; simp only [rowsFrom, List.mem_singleton] at h; subst h; exact ⟨List.prefix_refl _, rfl⟩
  | succ d ih =>
    intro row r h
    simp only [rowsFrom, List.mem_flatMap] at h
    obtain ⟨s, hs, hr⟩ := h
    unfold nexts at hs
    obtain ⟨k, _, rfl⟩ := List.mem_map.1 hs
    obtain ⟨h1, h2⟩ := ih _ r hr
    exact ⟨(List.prefix_append row [(k : Int)]).trans h1, by rw [h2]; simp; omega⟩
theorem free_step (l0 row r : List Int) (k : Nat) (h : row ++ [(k : Int)] <+: r) : allFree l0 r (row.length + 1) = (allFree l0 r row.length && freeS l0 row k) := by
  obtain ⟨t, rfl⟩ := h
  unfold allFree
  rw [List.range_succ, List.all_append]
  congr 1
  rw [List.all_cons, List.all_nil, Bool.and_true]
  have h1 : ((row ++ [(k : Int)]) ++ t).take row.length = row := by rw [List.append_assoc, List.take_left']; rfl
  have h2 : rd ((row ++ [(k : Int)]) ++ t) (row.length : Int) = (k : Int) := by
    unfold rd
    rw [Int.toNat_natCast, List.getD_eq_getElem?_getD, List.append_assoc, List.getElem?_append_right (Nat.le_refl _)]
    simp
  rw [h1, h2, Int.toNat_natCast]
theorem ext_filter (l0 : List Int) (d : Nat) : ∀ row, (∀ r ∈ rowsFrom l0.length d row, allFree l0 r row.length = true) → extR l0 d row = (rowsFrom l0.length d row).filter fun r => allFree l0 r (row.length + d) := by
  induction d with
  | zero =>
    intro row h
    simp only [extR, rowsFrom]
    rw [List.filter_cons, Nat.add_zero, if_pos (h row (by simp [rowsFrom]))]; rfl
  | succ d ih =>
    intro row h
    simp only [extR, rowsFrom]
    rw [List.filter_flatMap]
    unfold nexts
    rw [List.flatMap_map]
    rw [← flat_filter (List.range l0.length) (fun (k : Nat) => !row.contains (k : Int)) _ (fun (k : Nat) => if !row.contains (k : Int) && freeS l0 row k then extR l0 d (row ++ [(k : Int)]) else []) ?_]
    intro k hk
    cases hc : row.contains (k : Int) with
    | true => rfl
    | false =>
      rw [Bool.not_false, Bool.true_and, if_pos rfl]
      have hmem : ∀ r ∈ rowsFrom l0.length d (row ++ [(k : Int)]), r ∈ rowsFrom l0.length (d + 1) row := by
        intro r hr
        simp only [rowsFrom, List.mem_flatMap]
        refine ⟨row ++ [(k : Int)], ?_, hr⟩
        unfold nexts
        exact List.mem_map.2 ⟨k, List.mem_filter.2 ⟨hk, by rw [hc]; rfl⟩, rfl⟩
      have hstep : ∀ r ∈ rowsFrom l0.length d (row ++ [(k : Int)]), allFree l0 r (row ++ [(k : Int)]).length = freeS l0 row k := by
        intro r hr
        rw [show (row ++ [(k : Int)]).length = row.length + 1 by simp, free_step l0 row r k (from_prefix _ d _ r hr).1, h r (hmem r hr), Bool.true_and]
      cases hf : freeS l0 row k with
      | true =>
        rw [if_pos rfl, ih _ (fun r hr => by rw [hstep r hr, hf])]
        rw [show (row ++ [(k : Int)]).length + d = row.length + (d + 1) by simp; omega]
      | false =>
        rw [if_neg (by simp)]
        symm
        rw [List.filter_eq_nil_iff]
        intro r hr hall
        have h1 := hstep r hr
        rw [hf] at h1
        have h2 : allFree l0 r (row ++ [(k : Int)]).length = true := by
          unfold allFree at hall ⊢
          rw [List.all_eq_true] at hall ⊢
          intro p hp
          rw [List.mem_range] at hp
          exact hall p (List.mem_range.2 (by simp at hp; omega))
        rw [h1] at h2; cases h2
theorem ext_rows (l0 : List Int) : extR l0 l0.length [] = (rowsR l0.length l0.length).filter fun r => allFree l0 r l0.length := by
  rw [ext_filter l0 l0.length [] (fun r _ => rfl)]
  have := rows_from l0.length l0.length 0
  rw [Nat.zero_add] at this
  rw [this]
  simp [rowsR]
/-- A whole row holds each place. -/
theorem whole_mem (n : Nat) (r : List Int) (hr : r ∈ rowsR n n) (x : Int) (h0 : 0 ≤ x) (h1 : x < n) : x ∈ r := by
  obtain ⟨a, b, c⟩ := rows_in _ _ r hr
  refine Classical.byContradiction fun hx => ?_
  have hs : (x :: r) ⊆ (List.range n).map (fun (k : Nat) => (k : Int)) := by
    intro y hy
    have hy2 : 0 ≤ y ∧ y < n := by
      rcases List.mem_cons.1 hy with h | h
      · subst h; exact ⟨h0, h1⟩
      · exact c y h
    obtain ⟨k, rfl⟩ := Int.eq_ofNat_of_zero_le hy2.1
    exact List.mem_map.2 ⟨k, List.mem_range.2 (by omega), rfl⟩
  have := List.Nodup.length_le_of_subset (List.nodup_cons.2 ⟨hx, b⟩) hs
  simp at this
  omega
theorem mem_take_pos {r : List Int} {x : Int} {p : Nat} (h : x ∈ r.take p) : ∃ q, q < p ∧ q < r.length ∧ rd r (q : Int) = x := by
  obtain ⟨q, hq, e⟩ := List.mem_iff_getElem.1 h
  rw [List.length_take] at hq
  have hq2 : q < r.length := by omega
  refine ⟨q, by omega, hq2, ?_⟩
  have := rd_some hq2
  rw [List.getElem?_eq_getElem hq2] at this
  rw [← Option.some.inj this, ← e, List.getElem_take]
/-- Where there is a whole row that keeps the order, there is no cycle. -/
theorem no_cycle (l0 r c : List Int) (hu : InU l0) (hr : r ∈ rowsR l0.length l0.length) (hf : allFree l0 r l0.length = true) (hc : InN l0.length c) (hw : walkS l0 c = true) : False := by
  obtain ⟨ra, rb, rc⟩ := rows_in _ _ r hr
  unfold walkS at hw
  rw [okFrom_iff] at hw
  obtain ⟨hpos, hall⟩ := hw
  have key : ∀ p : Nat, p < r.length → ∀ j, j < c.length → rd c (j : Int) = rd r (p : Int) → False := by
    intro p
    induction p using Nat.strongRecOn with
    | _ p ih =>
      intro hp j hj he
      obtain ⟨q, hq, hqj⟩ : ∃ q, q < c.length ∧ (q + 1) % c.length = j := by
        by_cases h0 : j = 0
        · exact ⟨c.length - 1, by omega, by rw [show c.length - 1 + 1 = c.length by omega, Nat.mod_self, h0]⟩
        · exact ⟨j - 1, by omega, by rw [show j - 1 + 1 = j by omega, Nat.mod_eq_of_lt hj]⟩
      have h1 := hall q (Nat.zero_le _) (by omega)
      unfold okAt at h1
      rw [Bool.and_eq_true, hqj, he] at h1
      have hx := hc _ (rd_mem (l := c) (i := q) hq)
      obtain ⟨i, hi⟩ := Int.eq_ofNat_of_zero_le hx.1
      rw [hi] at h1 hx
      unfold allFree at hf
      rw [List.all_eq_true] at hf
      have h2 := hf p (List.mem_range.2 (by omega))
      unfold freeS at h2
      rw [List.all_eq_true] at h2
      have h3 := h2 i (List.mem_range.2 (by omega))
      rw [h1.2, Bool.not_true, Bool.or_false, List.contains_iff_mem] at h3
      obtain ⟨p', hp', hp2, he'⟩ := mem_take_pos h3
      exact ih p' hp' hp2 q hq (by rw [hi, he'])
  have h0 := hc _ (rd_mem (l := c) (i := 0) hpos)
  have hm := whole_mem _ r hr _ h0.1 h0.2
  obtain ⟨p, hp, e⟩ := List.mem_iff_getElem.1 hm
  have := rd_some hp
  rw [List.getElem?_eq_getElem hp] at this
  exact key p hp 0 hpos (by rw [← Option.some.inj this, e])
def PathI (l0 c : List Int) : Prop := ∀ k : Nat, k + 1 < c.length → bitB (rd l0 (rd c (k : Int))) (rd c ((k + 1 : Nat) : Int)).toNat = true
theorem rd_cons (x : Int) (c : List Int) (k : Nat) : rd (x :: c) ((k + 1 : Nat) : Int) = rd c (k : Int) := by
  unfold rd; rw [Int.toNat_natCast, Int.toNat_natCast, List.getD_cons_succ]
theorem rd_take (c : List Int) (q k : Nat) (h : k < q) : rd (c.take q) (k : Int) = rd c (k : Int) := by
  unfold rd; rw [Int.toNat_natCast, List.getD_eq_getElem?_getD, List.getD_eq_getElem?_getD, List.getElem?_take, if_pos h]
/-- Where each place that is left has one before it that is left, there is a cycle. -/
theorem stuck_cycle (l0 row : List Int) (hu : InU l0) (hn : l0.length ≤ 6) (hs : ∀ k : Nat, k < l0.length → (k : Int) ∉ row → freeS l0 row k = false) (k0 : Nat) (hk0 : k0 < l0.length) (hk1 : (k0 : Int) ∉ row) :
    ∃ c, 0 < c.length ∧ c.Nodup ∧ InN l0.length c ∧ walkS l0 c = true := by
  refine Classical.byContradiction fun hno => ?_
  have grow : ∀ m : Nat, ∃ c : List Int, c.length = m + 1 ∧ c.Nodup ∧ InN l0.length c ∧ (∀ x ∈ c, x ∉ row) ∧ PathI l0 c := by
    intro m
    induction m with
    | zero =>
      exact ⟨[(k0 : Int)], rfl, by simp, fun x hx => by rw [List.mem_singleton] at hx; subst hx; omega, fun x hx => by rw [List.mem_singleton] at hx; subst hx; exact hk1, fun k hk => by simp at hk⟩
    | succ m ih =>
      obtain ⟨c, h1, h2, h3, h4, h5⟩ := ih
      have hm0 : rd c ((0 : Nat) : Int) ∈ c := rd_mem (by omega)
      have hb := h3 _ hm0
      obtain ⟨k, hk⟩ := Int.eq_ofNat_of_zero_le hb.1
      have hf := hs k (by omega) (by rw [← hk]; exact h4 _ hm0)
      unfold freeS at hf
      rw [List.all_eq_false] at hf
      obtain ⟨i, hi, hi2⟩ := hf
      rw [List.mem_range] at hi
      have hi3 : (i : Int) ∉ row ∧ bitB (rd l0 (i : Int)) k = true := by
        constructor
        · intro h; rw [← List.contains_iff_mem] at h; rw [h] at hi2; simp at hi2
        · cases hbb : bitB (rd l0 (i : Int)) k with
          | true => rfl
          | false => rw [hbb] at hi2; simp at hi2
      have hmem : (i : Int) ∉ c := by
        intro hmem
        obtain ⟨q, hq, e⟩ := List.mem_iff_getElem.1 hmem
        have hqr := rd_some hq
        rw [List.getElem?_eq_getElem hq] at hqr
        have hq2 : rd c (q : Int) = (i : Int) := by rw [← Option.some.inj hqr, e]
        have hlen : (c.take (q + 1)).length = q + 1 := by rw [List.length_take]; omega
        refine hno ⟨c.take (q + 1), by omega, h2.sublist (List.take_sublist _ _), fun x hx => h3 x (List.mem_of_mem_take hx), ?_⟩
        unfold walkS
        have hnd : (c.take (q + 1)).Nodup := h2.sublist (List.take_sublist _ _)
        have hin : InN l0.length (c.take (q + 1)) := fun x hx => h3 x (List.mem_of_mem_take hx)
        have hsp := walk_split l0 (c.take (q + 1)) hu hn (by omega) hnd hin
        unfold walkS at hsp
        rw [hsp, Bool.and_eq_true]
        constructor
        · unfold pathS
          rw [List.all_eq_true]
          intro j hj
          rw [List.mem_range, hlen] at hj
          rw [rd_take c _ j (by omega), rd_take c _ (j + 1) (by omega)]
          exact h5 j (by omega)
        · unfold closeB
          have h0 : (c.take (q + 1)).getD 0 0 = (k : Int) := by
            have : rd (c.take (q + 1)) ((0 : Nat) : Int) = rd c ((0 : Nat) : Int) := rd_take c _ 0 (by omega)
            rw [hk] at this
            exact this
          rw [h0, edge_bit l0 _ hu (by omega) hin _ (by omega), hlen, rd_take c _ _ (by omega), show q + 1 - 1 = q by omega, hq2, Int.toNat_natCast]
          exact hi3.2
      refine ⟨(i : Int) :: c, by simp [h1], List.nodup_cons.2 ⟨hmem, h2⟩, ?_, ?_, ?_⟩
      · intro x hx
        rcases List.mem_cons.1 hx with h | h
        · subst h; omega
        · exact h3 x h
      · intro x hx
        rcases List.mem_cons.1 hx with h | h
        · subst h; exact hi3.1
        · exact h4 x h
      · intro j hj
        cases j with
        | zero =>
          have e1 : rd ((i : Int) :: c) ((0 : Nat) : Int) = (i : Int) := rfl
          rw [e1, rd_cons, hk, Int.toNat_natCast]
          exact hi3.2
        | succ j =>
          rw [rd_cons, rd_cons]
          exact h5 j (by simp at hj; omega)
  obtain ⟨c, h1, h2, h3, _, _⟩ := grow l0.length
  have hs2 : c ⊆ (List.range l0.length).map (fun (k : Nat) => (k : Int)) := by
    intro y hy
    have hy2 := h3 y hy
    obtain ⟨k, rfl⟩ := Int.eq_ofNat_of_zero_le hy2.1
    exact List.mem_map.2 ⟨k, List.mem_range.2 (by omega), rfl⟩
  have := List.Nodup.length_le_of_subset h2 hs2
  simp at this
  omega
theorem free_all (l0 row : List Int) (k : Nat) (h : allFree l0 row row.length = true) (hf : freeS l0 row k = true) : allFree l0 (row ++ [(k : Int)]) (row ++ [(k : Int)]).length = true := by
  have h1 := free_step l0 row (row ++ [(k : Int)]) k (List.prefix_refl _)
  rw [show (row ++ [(k : Int)]).length = row.length + 1 by simp, h1, hf, Bool.and_true]
  unfold allFree at h ⊢
  rw [List.all_eq_true] at h ⊢
  intro p hp
  have h2 := h p hp
  rw [List.mem_range] at hp
  rw [List.take_append_of_le_length (by omega), rd_append row _ p hp]
  exact h2
theorem mem_ext (l0 r : List Int) : r ∈ extR l0 l0.length [] ↔ (r ∈ rowsR l0.length l0.length ∧ allFree l0 r l0.length = true) := by
  rw [ext_rows, List.mem_filter]
/-- There is a whole row that keeps the order, or there is a cycle; never both. -/
theorem ext_or_cycle (l0 : List Int) (hu : InU l0) (hn : l0.length ≤ 6) : (extR l0 l0.length [] ≠ [] ∧ ¬ ∃ c, InN l0.length c ∧ walkS l0 c = true) ∨ (extR l0 l0.length [] = [] ∧ ∃ c, 0 < c.length ∧ c.Nodup ∧ InN l0.length c ∧ walkS l0 c = true) := by
  by_cases h : ∃ r, r ∈ extR l0 l0.length []
  · obtain ⟨r, hr⟩ := h
    left
    obtain ⟨h1, h2⟩ := (mem_ext l0 r).1 hr
    exact ⟨fun e => (by rw [e] at hr; cases hr), fun ⟨c, hc, hw⟩ => no_cycle l0 r c hu h1 h2 hc hw⟩
  · right
    refine ⟨List.eq_nil_iff_forall_not_mem.2 (fun r hr => h ⟨r, hr⟩), Classical.byContradiction fun hno => h ?_⟩
    have grow : ∀ m, m ≤ l0.length → ∃ r : List Int, r.length = m ∧ r.Nodup ∧ InN l0.length r ∧ allFree l0 r r.length = true := by
      intro m
      induction m with
      | zero => intro _; exact ⟨[], rfl, List.nodup_nil, fun x hx => (by cases hx), rfl⟩
      | succ m ih =>
        intro hm
        obtain ⟨r, h1, h2, h3, h4⟩ := ih (by omega)
        have hex : ∃ k : Nat, k < l0.length ∧ (k : Int) ∉ r ∧ freeS l0 r k = true := by
          refine Classical.byContradiction fun hne => ?_
          have hk0 : ∃ k0 : Nat, k0 < l0.length ∧ (k0 : Int) ∉ r := by
            refine Classical.byContradiction fun hn2 => ?_
            have hsub : (List.range l0.length).map (fun (k : Nat) => (k : Int)) ⊆ r := by
              intro y hy
              obtain ⟨k, hk, rfl⟩ := List.mem_map.1 hy
              exact Classical.byContradiction fun h5 => hn2 ⟨k, List.mem_range.1 hk, h5⟩
            have hnd : ((List.range l0.length).map (fun (k : Nat) => (k : Int))).Nodup := by
              rw [List.nodup_iff_pairwise_ne, List.pairwise_map]
              exact List.Pairwise.imp (fun h5 => by omega) List.pairwise_lt_range
            have := List.Nodup.length_le_of_subset hnd hsub
            simp at this
            omega
          obtain ⟨k0, hk1, hk2⟩ := hk0
          refine hno (stuck_cycle l0 r hu hn (fun k hk hkr => ?_) k0 hk1 hk2)
          cases hf : freeS l0 r k with
          | false => rfl
          | true => exact absurd ⟨k, hk, hkr, hf⟩ hne
        obtain ⟨k, hk, hkr, hf⟩ := hex
        refine ⟨r ++ [(k : Int)], by simp [h1], ?_, ?_, free_all l0 r k h4 hf⟩
        · rw [List.nodup_append]
          exact ⟨h2, by simp, fun a ha b hb => by rw [List.mem_singleton] at hb; subst hb; exact fun e => hkr (e ▸ ha)⟩
        · intro x hx
          rcases List.mem_append.1 hx with h5 | h5
          · exact h3 x h5
          · rw [List.mem_singleton] at h5; subst h5; omega
    obtain ⟨r, h1, h2, h3, h4⟩ := grow l0.length (Nat.le_refl _)
    exact ⟨r, (mem_ext l0 r).2 ⟨rows_all _ _ r h1 h2 h3, by rw [← h1]; rw [h1] at h4 ⊢; exact h4⟩⟩
/-! ### what is left, as bits -/
def notBit (m : Int) (i : Nat) : Int := bits BinOp.andNot IntKind.u32 m (2 ^ min i 32 % 4294967296)
/-- m's bits are the places below n that are not in the row. -/
def Left (n : Nat) (m : Int) (row : List Int) : Prop := 0 ≤ m ∧ m < 64 ∧ ∀ i : Nat, i < 6 → (m / 2 ^ i % 2 = 1 ↔ (i < n ∧ (i : Int) ∉ row))
set_option maxRecDepth 100000 in
theorem not_table : ∀ m : Fin 64, ∀ i : Fin 6, (notBit ((m.val : Nat) : Int) i.val).toNat < 64 ∧ 0 ≤ notBit ((m.val : Nat) : Int) i.val ∧ ∀ j : Fin 6, (notBit ((m.val : Nat) : Int) i.val / 2 ^ j.val % 2 = 1 ↔ (((m.val : Nat) : Int) / 2 ^ j.val % 2 = 1 ∧ ¬ j = i)) := by decide +kernel
theorem left_take {n : Nat} {m : Int} {row : List Int} {i : Nat} (h : Left n m row) (hi : i < 6) : Left n (notBit m i) (row ++ [(i : Int)]) := by
  obtain ⟨h0, h1, h2⟩ := h
  obtain ⟨k, rfl⟩ := Int.eq_ofNat_of_zero_le h0
  obtain ⟨t1, t2, t3⟩ := not_table ⟨k, by omega⟩ ⟨i, hi⟩
  refine ⟨t2, by dsimp only at t1; omega, fun j hj => ?_⟩
  have := t3 ⟨j, hj⟩
  dsimp only at this
  rw [this, h2 j hj]
  constructor
  · rintro ⟨⟨a, b⟩, c⟩
    refine ⟨a, fun hm => ?_⟩
    rcases List.mem_append.1 hm with h3 | h3
    · exact b h3
    · rw [List.mem_singleton] at h3
      exact c (Fin.ext (by dsimp only; omega))
  · rintro ⟨a, b⟩
    refine ⟨⟨a, fun hm => b (List.mem_append_left _ hm)⟩, fun e => b ?_⟩
    have := congrArg Fin.val e
    dsimp only at this
    subst this
    simp
theorem zero_bits : ∀ m : Fin 64, (∀ j : Fin 6, ¬ ((m.val : Nat) : Int) / 2 ^ j.val % 2 = 1) → m.val = 0 := by decide +kernel
/-- Nothing is left, just if the row is whole. -/
theorem left_zero {n : Nat} (hn : n ≤ 6) {m : Int} {row : List Int} (h : Left n m row) : m = 0 ↔ ∀ i : Nat, i < n → (i : Int) ∈ row := by
  obtain ⟨h0, h1, h2⟩ := h
  constructor
  · intro hm i hi
    refine Classical.byContradiction fun hx => ?_
    have := (h2 i (by omega)).2 ⟨hi, hx⟩
    rw [hm] at this
    simp at this
  · intro hall
    obtain ⟨k, rfl⟩ := Int.eq_ofNat_of_zero_le h0
    have := zero_bits ⟨k, by omega⟩ (fun j hj => by
      obtain ⟨a, b⟩ := (h2 j.val j.isLt).1 hj
      exact b (hall _ a))
    dsimp only at this
    omega
end Go.Proofs.Ytimbamimabdmcaa.U

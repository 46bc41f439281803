/- The document's rows that keep an order are the same rows; its word on which orders may be is the same. -/
import Derived.Test.YtimbamimabdmcaaUWays
import Derived.Test.YtimbamimabdmcaaP8
import Derived.Test.YtimbamimabdmcaaP7
namespace Go.Proofs.Ytimbamimabdmcaa.U
set_option linter.unusedVariables false
set_option linter.unusedSimpArgs false
open Go Go.RowKit Go.Proofs.Ytimbamimabdmcaa.P Go.Proofs.YtimbamimabdmcaaW.PrintWords Go.Proofs.YtimbamimabdmcaaW.PrintLast Go.Proofs.YtimbamimabdmcaaW.PrintMore

/-! ### Keeps -/
def kIn (l0 : List Int) (a : Int) : List Int → Bool
  | [] => true
  | b :: t => if a = b then false else if bitB (rd l0 a) b.toNat then false else kIn l0 a t
def kOut (l0 row : List Int) : Nat → Nat → Bool
  | 0, _ => true
  | d + 1, i => kIn l0 (rd row (i : Int)) (row.take i) && kOut l0 row d (i + 1)
def keepsB (l0 row : List Int) : Bool := kOut l0 row row.length 0
theorem kin_ev (l0 row : List Int) (hu : InU l0) (a : Int) (ha : 0 ≤ a ∧ a < l0.length) (x9 x10 : Int) (x11 : List Int) (s : List Int) (hs : InN l0.length s) (hl0 : l0.length ≤ 6) (hl : s.length < 1000000) (i : Nat) (hi : i < 1000000) (r : Bool)
    (he : Ev (fun k => recantref11_Keeps.l0 k l0 row x11 x9 (wrap64 (x10 + 1))) r) (d : Nat) : ∀ j : Nat, j + d = s.length →
    Ev (fun k => recantref11_Keeps.l1 k l0 row a x11 x9 x10 s (s.length : Int) (j : Int)) (kIn l0 a (s.drop j) && r) := by
  induction d with
  | zero =>
    intro j hj
    obtain ⟨K, e⟩ := he
    refine ⟨K + 1, fun k hk => ?_⟩
    obtain ⟨k, rfl⟩ : ∃ m, k = m + 1 := ⟨k - 1, by omega⟩
    simp only [recantref11_Keeps.l1]
    rw [if_neg (by omega), List.drop_of_length_le (by omega)]
    have := e k (by omega)
    dsimp only at this
    rw [this]
    simp [kIn]
  | succ d ih =>
    intro j hj
    have hg : rd s (j : Int) = s[j]'(by omega) := by
      have := rd_some (l := s) (i := j) (by omega)
      rw [List.getElem?_eq_getElem (by omega)] at this
      exact (Option.some.inj this).symm
    have hb := hs _ (List.getElem_mem (h := (by omega : j < s.length)))
    obtain ⟨b, hbe⟩ := Int.eq_ofNat_of_zero_le hb.1
    obtain ⟨K1, e1⟩ := ih (j + 1) (by omega)
    have hra := hu _ (rd_mem_i ha.1 ha.2)
    obtain ⟨K2, e2⟩ := bit_f (rd l0 a) b hra.1 hra.2 (by omega)
    refine ⟨K1 + K2 + 1, fun k hk => ?_⟩
    obtain ⟨k, rfl⟩ : ∃ m, k = m + 1 := ⟨k - 1, by omega⟩
    simp only [recantref11_Keeps.l1]
    have e2' := e2 k (by omega)
    dsimp only at e2'
    rw [if_pos (by omega), if_pos (by omega), if_pos (by omega), hg, List.drop_eq_getElem_cons (by omega : j < s.length)]
    unfold kIn
    by_cases h : a = s[j]'(by omega)
    · rw [if_pos h, if_pos h]; rfl
    · rw [if_neg h, if_neg h, if_pos ha.1, if_pos ha.2, hbe, e2', Option.bind_some, Int.toNat_natCast]
      cases hbt : bitB (rd l0 a) b with
      | true => simp
      | false =>
        rw [if_neg (by simp), if_neg (by simp), w64 (by omega) (by omega), show ((j : Int) + 1) = ((j + 1 : Nat) : Int) by omega]
        exact e1 k (by omega)
theorem kout_ev (l0 row : List Int) (hu : InU l0) (hr : InN l0.length row) (hl0 : l0.length ≤ 6) (hl : row.length < 1000000) (d : Nat) : ∀ i : Nat, i + d = row.length → Ev (fun k => recantref11_Keeps.l0 k l0 row row (row.length : Int) (i : Int)) (kOut l0 row d i) := by
  induction d with
  | zero =>
    intro i hi
    refine ⟨1, fun k hk => ?_⟩
    obtain ⟨k, rfl⟩ : ∃ m, k = m + 1 := ⟨k - 1, by omega⟩
    simp only [recantref11_Keeps.l0]
    rw [if_neg (by omega)]; rfl
  | succ d ih =>
    intro i hi
    have h1 := ih (i + 1) (by omega)
    obtain ⟨K, e⟩ := kin_ev l0 row hu (rd row (i : Int)) (hr _ (rd_mem (by omega))) (row.length : Int) (i : Int) row (row.take i) (fun x hx => hr x (List.mem_of_mem_take hx)) hl0 (by rw [List.length_take]; omega) i (by omega) (kOut l0 row d (i + 1)) (by
      rw [w64 (by omega) (by omega), show ((i : Int) + 1) = ((i + 1 : Nat) : Int) by omega]; exact h1) (row.take i).length 0 (by omega)
    refine ⟨K + 1, fun k hk => ?_⟩
    obtain ⟨k, rfl⟩ : ∃ m, k = m + 1 := ⟨k - 1, by omega⟩
    simp only [recantref11_Keeps.l0]
    rw [if_pos (by omega), if_pos (by omega), if_pos (by omega), if_pos (by omega), Option.bind_some, Int.toNat_natCast]
    have := e k (by omega)
    rw [List.drop_zero] at this
    exact this
theorem keeps_f (l0 row : List Int) (hu : InU l0) (hr : InN l0.length row) (hl0 : l0.length ≤ 6) (hl : row.length < 1000000) : Ev (fun k => recantref11_Keeps.f k l0 row) (keepsB l0 row) := kout_ev l0 row hu hr hl0 hl row.length 0 (by omega)
theorem kin_iff (l0 : List Int) (a : Int) (s : List Int) : kIn l0 a s = true ↔ ∀ b ∈ s, a ≠ b ∧ bitB (rd l0 a) b.toNat = false := by
  induction s with
  | nil => simp [kIn]
  | cons b t ih =>
    unfold kIn
    by_cases h : a = b
    · rw [if_pos h]; simp [h]
    · rw [if_neg h]
      cases hb : bitB (rd l0 a) b.toNat with
      | true => simp [hb]
      | false => simp [hb, h, ih]
theorem kout_iff (l0 row : List Int) (d : Nat) : ∀ i, kOut l0 row d i = true ↔ ∀ j, i ≤ j → j < i + d → kIn l0 (rd row (j : Int)) (row.take j) = true := by
  induction d with
  | zero => intro i; simp [kOut]; intro j h1 h2; omega
  | succ d ih =>
    intro i
    unfold kOut
    rw [Bool.and_eq_true, ih (i + 1)]
    constructor
    · rintro ⟨h1, h2⟩ j h3 h4
      rcases Nat.eq_or_lt_of_le h3 with rfl | h5
      · exact h1
      · exact h2 j h5 (by omega)
    · intro h
      exact ⟨h i (Nat.le_refl _) (by omega), fun j h3 h4 => h j (by omega) (by omega)⟩
theorem keeps_iff (l0 row : List Int) : keepsB l0 row = true ↔ ∀ j, j < row.length → ∀ b ∈ row.take j, rd row (j : Int) ≠ b ∧ bitB (rd l0 (rd row (j : Int))) b.toNat = false := by
  unfold keepsB
  rw [kout_iff]
  constructor
  · intro h j hj; exact (kin_iff _ _ _).1 (h j (Nat.zero_le _) (by omega))
  · intro h j _ hj; exact (kin_iff _ _ _).2 (h j (by omega))
theorem keeps_pre (l0 row : List Int) (x : Int) (h : keepsB l0 (row ++ [x]) = true) : keepsB l0 row = true := by
  rw [keeps_iff] at h ⊢
  intro j hj b hb
  have := h j (by simp; omega) b (by rw [List.take_append_of_le_length (by omega)]; exact hb)
  rw [rd_append row x j hj] at this
  exact this
def noSelf (l0 : List Int) : Prop := ∀ x : Nat, x < l0.length → bitB (rd l0 (x : Int)) x = false
theorem self_none (l0 : List Int) (h : extR l0 l0.length [] ≠ []) : noSelf l0 := by
  intro x hx
  obtain ⟨r, hr⟩ := List.exists_mem_of_ne_nil _ h
  obtain ⟨h1, h2⟩ := (mem_ext l0 r).1 hr
  obtain ⟨p, hp, hpe⟩ := place_of l0 r h1 x hx
  cases hb : bitB (rd l0 (x : Int)) x with
  | false => rfl
  | true =>
    obtain ⟨q, hq, hqe⟩ := edge_before l0 r h1 h2 x hx p hp (by rw [hpe, Int.toNat_natCast]; exact hb)
    obtain ⟨ra, rb, _⟩ := rows_in _ _ r h1
    have := nodup_pos rb (p := q) (q := p) (by omega) (by omega) (by rw [hqe, hpe])
    omega
theorem keeps_free (l0 r : List Int) (hns : noSelf l0) (hr : r ∈ rowsR l0.length l0.length) : keepsB l0 r = allFree l0 r l0.length := by
  obtain ⟨ra, rb, rc⟩ := rows_in _ _ r hr
  rw [Bool.eq_iff_iff, keeps_iff]
  constructor
  · intro h
    unfold allFree
    rw [List.all_eq_true]
    intro p hp
    rw [List.mem_range] at hp
    unfold freeS
    rw [List.all_eq_true]
    intro x hx
    rw [List.mem_range] at hx
    cases hb : bitB (rd l0 (x : Int)) (rd r (p : Int)).toNat with
    | false => simp
    | true =>
      obtain ⟨q, hq, hqe⟩ := place_of l0 r hr x hx
      rcases Nat.lt_trichotomy q p with h1 | h1 | h1
      · have : (r.take p).contains (x : Int) = true := by
          rw [List.contains_iff_mem, List.mem_take_iff_getElem]
          refine ⟨q, by omega, ?_⟩
          have h3 := rd_some (l := r) (i := q) (by omega)
          rw [List.getElem?_eq_getElem (by omega)] at h3
          rw [Option.some.inj h3, hqe]
        rw [this]; rfl
      · subst h1
        rw [hqe, Int.toNat_natCast, hns x hx] at hb; cases hb
      · have h2 := h q (by omega) (rd r (p : Int)) (by
          rw [List.mem_take_iff_getElem]
          refine ⟨p, by omega, ?_⟩
          have h3 := rd_some (l := r) (i := p) (by omega)
          rw [List.getElem?_eq_getElem (by omega)] at h3
          exact Option.some.inj h3)
        rw [hqe, hb] at h2
        cases h2.2
  · intro h j hj b hb
    obtain ⟨q, hq1, hq2, hqe⟩ := mem_take_pos hb
    refine ⟨fun e => ?_, ?_⟩
    · have := nodup_pos rb hj hq2 (by rw [e, hqe]); omega
    · have hx := rc _ (rd_mem hj)
      obtain ⟨x, hxe⟩ := Int.eq_ofNat_of_zero_le hx.1
      rw [hxe, ← hqe]
      cases hbt : bitB (rd l0 (x : Int)) (rd r (q : Int)).toNat with
      | false => rfl
      | true =>
        obtain ⟨q2, h1, h2⟩ := edge_before l0 r hr h x (by omega) q (by omega) hbt
        have := nodup_pos rb (p := q2) (q := j) (by omega) hj (by rw [h2, hxe])
        omega
/-! ### All -/
def levK (l0 : List Int) (L : Nat) : List (List Int) := (rowsR l0.length L).filter (keepsB l0)
def nextK (l0 r : List Int) (ks : List Nat) : List (List Int) := (nexts l0.length r ks).filter (keepsB l0)
theorem nextK_cons (l0 r : List Int) (k : Nat) (ks : List Nat) : nextK l0 r (k :: ks) = (if keepsB l0 (r ++ [(k : Int)]) && !r.contains (k : Int) then [r ++ [(k : Int)]] else []) ++ nextK l0 r ks := by
  unfold nextK
  rw [nexts_cons, List.filter_append]
  congr 1
  cases h : r.contains (k : Int) with
  | true => simp
  | false =>
    rw [if_neg (by simp), List.filter_cons]
    cases h2 : keepsB l0 (r ++ [(k : Int)]) <;> simp
theorem nextK_len (l0 r : List Int) (ks : List Nat) : (nextK l0 r ks).length ≤ ks.length := by
  unfold nextK
  exact Nat.le_trans (List.length_filter_le _ _) (nexts_len _ _ _)
theorem levK_succ (l0 : List Int) (L : Nat) : levK l0 (L + 1) = (levK l0 L).flatMap fun r => nextK l0 r (List.range l0.length) := by
  unfold levK
  simp only [rowsR]
  rw [List.filter_flatMap]
  refine flat_filter _ _ _ _ (fun r _ => ?_)
  cases hk : keepsB l0 r with
  | true => rfl
  | false =>
    rw [if_neg (by simp), List.filter_eq_nil_iff]
    intro s hs hks
    unfold nexts at hs
    obtain ⟨k, _, rfl⟩ := List.mem_map.1 hs
    rw [keeps_pre l0 r _ hks] at hk; cases hk
theorem with11 (r : List Int) (a : Int) (h : r.length < 1000) : recantref11_with.f r a = some (r ++ [a]) := by
  simp only [recantref11_with.f]
  rw [Option.bind_some, if_pos (by simp; omega), Option.bind_some, List.nil_append, if_pos (by omega)]
theorem a2_ev (l0 r : List Int) (hu : InU l0) (hrn : InN l0.length r) (hr : r.length < 1000) (hn : l0.length ≤ 6) (x11 x12 : Int) (x15 : List (List Int)) (x16 x17 : Int) (res : List (List Int)) (d : Nat) : ∀ (i : Nat) (x4 : List (List Int)), i + d = l0.length → x4.length + d ≤ 10000000 →
    Ev (fun k => recantref11_All.l1 k l0 (x4 ++ nextK l0 r ((List.range l0.length).drop i)) x11 x12 x15 x16 (wrap64 (x17 + 1))) res → Ev (fun k => recantref11_All.l2 k l0 x4 r x11 x12 x15 x16 x17 (l0.length : Int) (i : Int)) res := by
  induction d with
  | zero =>
    intro i x4 hi hx he
    obtain ⟨K, e⟩ := he
    refine ⟨K + 1, fun k hk => ?_⟩
    obtain ⟨k, rfl⟩ : ∃ m, k = m + 1 := ⟨k - 1, by omega⟩
    simp only [recantref11_All.l2]
    rw [if_neg (by omega)]
    have := e k (by omega)
    rw [List.drop_of_length_le (by simp; omega)] at this
    simpa [nextK, nexts] using this
  | succ d ih =>
    intro i x4 hi hx he
    obtain ⟨K1, e1⟩ := has_f r (i : Int) (by omega)
    obtain ⟨K2, e2⟩ := keeps_f l0 (r ++ [(i : Int)]) hu (fun x hx => by
      rcases List.mem_append.1 hx with h | h
      · exact hrn x h
      · rw [List.mem_singleton] at h; subst h; omega) hn (by simp; omega)
    rw [List.drop_eq_getElem_cons (by simp; omega), List.getElem_range, nextK_cons] at he
    have fin : ∀ (x4' : List (List Int)), x4'.length + d ≤ 10000000 → Ev (fun k => recantref11_All.l1 k l0 (x4' ++ nextK l0 r ((List.range l0.length).drop (i + 1))) x11 x12 x15 x16 (wrap64 (x17 + 1))) res → Ev (fun k => recantref11_All.l2 k l0 x4' r x11 x12 x15 x16 x17 (l0.length : Int) ((i + 1 : Nat) : Int)) res := fun x4' hx' he' => ih (i + 1) x4' (by omega) hx' he'
    cases hkp : keepsB l0 (r ++ [(i : Int)]) with
    | false =>
      rw [hkp, Bool.false_and, if_neg (by simp), List.nil_append] at he
      obtain ⟨K, e⟩ := fin x4 (by omega) he
      refine ⟨K + K1 + K2 + 1, fun k hk => ?_⟩
      obtain ⟨k, rfl⟩ : ∃ m, k = m + 1 := ⟨k - 1, by omega⟩
      simp only [recantref11_All.l2]
      have e2' := e2 k (by omega)
      dsimp only at e2'
      rw [if_pos (by omega), with11 r i hr, Option.bind_some, e2', hkp, Option.bind_some, if_neg (by simp), w64 (by omega) (by omega), show ((i : Int) + 1) = ((i + 1 : Nat) : Int) by omega]
      exact e k (by omega)
    | true =>
      cases hc : r.contains (i : Int) with
      | true =>
        rw [hkp, hc, Bool.not_true, Bool.and_false, if_neg (by simp), List.nil_append] at he
        obtain ⟨K, e⟩ := fin x4 (by omega) he
        refine ⟨K + K1 + K2 + 1, fun k hk => ?_⟩
        obtain ⟨k, rfl⟩ : ∃ m, k = m + 1 := ⟨k - 1, by omega⟩
        simp only [recantref11_All.l2]
        have e2' := e2 k (by omega)
        have e1' := e1 k (by omega)
        dsimp only at e2' e1'
        rw [if_pos (by omega), with11 r i hr, Option.bind_some, e2', hkp, Option.bind_some, if_pos rfl, e1', hc, Option.bind_some, if_pos rfl, w64 (by omega) (by omega), show ((i : Int) + 1) = ((i + 1 : Nat) : Int) by omega]
        exact e k (by omega)
      | false =>
        rw [hkp, hc, Bool.not_false, Bool.and_true, if_pos rfl, ← List.append_assoc] at he
        obtain ⟨K, e⟩ := fin (x4 ++ [r ++ [(i : Int)]]) (by simp; omega) he
        refine ⟨K + K1 + K2 + 1, fun k hk => ?_⟩
        obtain ⟨k, rfl⟩ : ∃ m, k = m + 1 := ⟨k - 1, by omega⟩
        simp only [recantref11_All.l2]
        have e2' := e2 k (by omega)
        have e1' := e1 k (by omega)
        dsimp only at e2' e1'
        rw [if_pos (by omega), with11 r i hr, Option.bind_some, e2', hkp, Option.bind_some, if_pos rfl, e1', hc, Option.bind_some, if_neg (by simp), Option.bind_some, if_pos (by omega), w64 (by omega) (by omega), show ((i : Int) + 1) = ((i + 1 : Nat) : Int) by omega]
        exact e k (by omega)
theorem a1_ev (l0 : List Int) (hu : InU l0) (hn : l0.length ≤ 6) (x11 x12 : Int) (x15 : List (List Int)) (hx15 : ∀ r ∈ x15, r.length < 1000 ∧ InN l0.length r) (hl : x15.length ≤ 1000000) (res : List (List Int)) (d : Nat) : ∀ (i : Nat) (x4 : List (List Int)), i + d = x15.length → x4.length + 6 * d ≤ 9000000 →
    Ev (fun k => recantref11_All.l0 k l0 (x4 ++ (x15.drop i).flatMap fun r => nextK l0 r (List.range l0.length)) x11 (wrap64 (x12 + 1))) res →
    Ev (fun k => recantref11_All.l1 k l0 x4 x11 x12 x15 (x15.length : Int) (i : Int)) res := by
  induction d with
  | zero =>
    intro i x4 hi hx he
    obtain ⟨K, e⟩ := he
    refine ⟨K + 1, fun k hk => ?_⟩
    obtain ⟨k, rfl⟩ : ∃ m, k = m + 1 := ⟨k - 1, by omega⟩
    simp only [recantref11_All.l1]
    rw [if_neg (by omega)]
    have := e k (by omega)
    rw [List.drop_of_length_le (by omega), List.flatMap_nil, List.append_nil] at this
    exact this
  | succ d ih =>
    intro i x4 hi hx he
    have hmem : x15[i]'(by omega) ∈ x15 := List.getElem_mem _
    rw [List.drop_eq_getElem_cons (by omega : i < x15.length), List.flatMap_cons, ← List.append_assoc] at he
    have hnl := nextK_len l0 (x15[i]'(by omega)) (List.range l0.length)
    rw [List.length_range] at hnl
    have h1 := ih (i + 1) (x4 ++ nextK l0 (x15[i]'(by omega)) (List.range l0.length)) (by omega) (by rw [List.length_append]; omega) he
    obtain ⟨K, e⟩ := a2_ev l0 (x15[i]'(by omega)) hu (hx15 _ hmem).2 (hx15 _ hmem).1 hn x11 x12 x15 (x15.length : Int) (i : Int) res l0.length 0 x4 (by omega) (by omega) (by
      rw [List.drop_zero, w64 (by omega) (by omega), show ((i : Int) + 1) = ((i + 1 : Nat) : Int) by omega]; exact h1)
    refine ⟨K + 1, fun k hk => ?_⟩
    obtain ⟨k, rfl⟩ : ∃ m, k = m + 1 := ⟨k - 1, by omega⟩
    simp only [recantref11_All.l1]
    rw [if_pos (by omega), if_pos (by omega), if_pos (by omega), rd3 x15 i (by omega)]
    exact e k (by omega)
theorem whole_ev (l0 : List Int) (hu : InU l0) (hn : l0.length ≤ 6) (xs : List (List Int)) (hx : ∀ r ∈ xs, r.length < 1000 ∧ InN l0.length r) (hl : xs.length ≤ 1000000) (d : Nat) : ∀ (i : Nat) (x5 : List (List Int)), i + d = xs.length → x5.length + d ≤ 10000000 →
    Ev (fun k => recantref11_whole.l0 k l0 x5 xs (xs.length : Int) (i : Int)) (x5 ++ (xs.drop i).filter (keepsB l0)) := by
  induction d with
  | zero =>
    intro i x5 hi hx5
    refine ⟨1, fun k hk => ?_⟩
    obtain ⟨k, rfl⟩ : ∃ m, k = m + 1 := ⟨k - 1, by omega⟩
    simp only [recantref11_whole.l0]
    rw [if_neg (by omega), List.drop_of_length_le (by omega)]; simp
  | succ d ih =>
    intro i x5 hi hx5
    have hmem : xs[i]'(by omega) ∈ xs := List.getElem_mem _
    obtain ⟨K2, e2⟩ := keeps_f l0 (xs[i]'(by omega)) hu (hx _ hmem).2 hn (by have := (hx _ hmem).1; omega)
    rw [List.drop_eq_getElem_cons (by omega : i < xs.length), List.filter_cons]
    cases hkp : keepsB l0 (xs[i]'(by omega)) with
    | true =>
      obtain ⟨K, e⟩ := ih (i + 1) (x5 ++ [xs[i]'(by omega)]) (by omega) (by simp; omega)
      refine ⟨K + K2 + 1, fun k hk => ?_⟩
      obtain ⟨k, rfl⟩ : ∃ m, k = m + 1 := ⟨k - 1, by omega⟩
      simp only [recantref11_whole.l0]
      have e2' := e2 k (by omega)
      dsimp only at e2'
      rw [if_pos (by omega), if_pos (by omega), if_pos (by omega), rd3 xs i (by omega), e2', hkp, Option.bind_some, if_pos rfl, if_pos (by omega), w64 (by omega) (by omega), show ((i : Int) + 1) = ((i + 1 : Nat) : Int) by omega, if_pos True.intro]
      have := e k (by omega)
      rw [List.append_assoc, List.singleton_append] at this
      exact this
    | false =>
      obtain ⟨K, e⟩ := ih (i + 1) x5 (by omega) (by omega)
      refine ⟨K + K2 + 1, fun k hk => ?_⟩
      obtain ⟨k, rfl⟩ : ∃ m, k = m + 1 := ⟨k - 1, by omega⟩
      simp only [recantref11_whole.l0]
      have e2' := e2 k (by omega)
      dsimp only at e2'
      rw [if_pos (by omega), if_pos (by omega), if_pos (by omega), rd3 xs i (by omega), e2', hkp, Option.bind_some, if_neg (by simp), w64 (by omega) (by omega), show ((i : Int) + 1) = ((i + 1 : Nat) : Int) by omega, if_neg (by simp)]
      exact e k (by omega)
theorem levK_len (l0 : List Int) (hn : l0.length ≤ 6) (L : Nat) (hL : L ≤ 6) : (levK l0 L).length ≤ 46656 := Nat.le_trans (List.length_filter_le _ _) (Nat.le_trans (rows_len _ hn L) (pow6_le L hL))
theorem levK_in (l0 : List Int) (hn : l0.length ≤ 6) (L : Nat) (hL : L ≤ 6) : ∀ r ∈ levK l0 L, r.length < 1000 ∧ InN l0.length r := fun r hr => by
  obtain ⟨h1, _, h3⟩ := rows_in _ _ r (List.mem_filter.1 hr).1
  exact ⟨by omega, h3⟩
theorem a0_ev (l0 : List Int) (hu : InU l0) (hn : l0.length ≤ 6) (d : Nat) : ∀ L : Nat, L + d = l0.length → Ev (fun k => recantref11_All.l0 k l0 (levK l0 L) (l0.length : Int) (L : Int)) (levK l0 l0.length) := by
  induction d with
  | zero =>
    intro L hL
    have h0 := levK_len l0 hn L (by omega)
    obtain ⟨K, e⟩ := whole_ev l0 hu hn (levK l0 L) (levK_in l0 hn L (by omega)) (by omega) (levK l0 L).length 0 [] (by omega) (by simp; omega)
    refine ⟨K + 1, fun k hk => ?_⟩
    obtain ⟨k, rfl⟩ : ∃ m, k = m + 1 := ⟨k - 1, by omega⟩
    simp only [recantref11_All.l0, recantref11_whole.f]
    have e' := e k (by omega)
    dsimp only at e'
    have e2 : recantref11_whole.l0 k l0 [] (levK l0 L) ((levK l0 L).length : Int) 0 = some (levK l0 l0.length) := by
      rw [show (0 : Int) = ((0 : Nat) : Int) from rfl, e', List.drop_zero, List.nil_append, show L = l0.length by omega]
      unfold levK
      rw [List.filter_filter]; simp
    rw [if_neg (by omega), e2]; rfl
  | succ d ih =>
    intro L hL
    have h0 := levK_len l0 hn L (by omega)
    obtain ⟨K, e⟩ := a1_ev l0 hu hn (l0.length : Int) (L : Int) (levK l0 L) (levK_in l0 hn L (by omega)) (by omega) (levK l0 l0.length) (levK l0 L).length 0 [] (by omega) (by simp; omega) (by
      rw [List.drop_zero, List.nil_append, ← levK_succ, w64 (by omega) (by omega), show ((L : Int) + 1) = ((L + 1 : Nat) : Int) by omega]
      exact ih (L + 1) (by omega))
    refine ⟨K + 1, fun k hk => ?_⟩
    obtain ⟨k, rfl⟩ : ∃ m, k = m + 1 := ⟨k - 1, by omega⟩
    simp only [recantref11_All.l0]
    rw [if_pos (by omega)]
    exact e k (by omega)
theorem levK_zero (l0 : List Int) : levK l0 0 = [[]] := by
  unfold levK
  simp only [rowsR]
  rw [List.filter_cons, if_pos (by rfl)]; rfl
theorem levK_ext (l0 : List Int) (h : extR l0 l0.length [] ≠ []) : levK l0 l0.length = extR l0 l0.length [] := by
  rw [ext_rows]
  unfold levK
  exact List.filter_congr fun r hr => keeps_free l0 r (self_none l0 h) hr
theorem all_f (l0 : List Int) (hu : InU l0) (hn : l0.length ≤ 6) (h : extR l0 l0.length [] ≠ []) : Ev (fun k => recantref11_All.f k l0) (extR l0 l0.length []) := by
  have := a0_ev l0 hu hn l0.length 0 (by omega)
  rw [levK_zero, levK_ext l0 h] at this
  exact this
/-! ### May -/
theorem may11_in (d : Nat) : ∀ (l0 l : List Int) (a x5 x6 : Int) (j : Int) (r : Int), 0 ≤ a → a < 4294967296 → 0 ≤ j → j + d = l0.length → l0.length < 1000000 →
    (a / 2 ^ d ≤ 0 → Ev (fun k => recantref11_May.l0 k l0 l x5 (wrap64 (x6 + 1))) r) → (0 < a / 2 ^ d → r = 1) → Ev (fun k => recantref11_May.l1 k l0 a l x5 x6 (l0.length : Int) j) r := by
  induction d with
  | zero =>
    intro l0 l a x5 x6 j r h0 h1 hj hd hl hz hp
    by_cases ha : 0 < a
    · refine ⟨1, fun k hk => ?_⟩
      obtain ⟨k, rfl⟩ : ∃ m, k = m + 1 := ⟨k - 1, by omega⟩
      simp only [recantref11_May.l1]
      rw [if_neg (by omega), if_pos ha, hp (by simpa using ha)]
    · obtain ⟨K, e⟩ := hz (by simp; omega)
      refine ⟨K + 1, fun k hk => ?_⟩
      obtain ⟨k, rfl⟩ : ∃ m, k = m + 1 := ⟨k - 1, by omega⟩
      simp only [recantref11_May.l1]
      rw [if_neg (by omega), if_neg ha]
      exact e k (by omega)
  | succ d ih =>
    intro l0 l a x5 x6 j r h0 h1 hj hd hl hz hp
    have hdd : a / 2 / 2 ^ d = a / 2 ^ (d + 1) := by rw [Int.ediv_ediv_of_nonneg (by decide), ← Int.pow_succ']
    obtain ⟨K, e⟩ := ih l0 l (a / 2) x5 x6 (j + 1) r (by omega) (by omega) (by omega) (by omega) hl (by rw [hdd]; exact hz) (by rw [hdd]; exact hp)
    refine ⟨K + 1, fun k hk => ?_⟩
    obtain ⟨k, rfl⟩ : ∃ m, k = m + 1 := ⟨k - 1, by omega⟩
    simp only [recantref11_May.l1]
    rw [if_pos (by omega), half_eq a h0 h1, w64 (by omega) (by omega)]
    exact e k (by omega)
theorem may2_ev (l0 : List Int) (hu : InU l0) (hn : l0.length ≤ 6) (d : Nat) : ∀ i : Nat, i + d = l0.length → Ev (fun k => recantref11_May.l2 k l0 (l0.length : Int) (i : Int)) (if (List.range' i d).any (fun (i : Nat) => (waysF l0 (i : Int) l0.length).contains (i : Int)) then 8 else 0) := by
  induction d with
  | zero =>
    intro i hi
    refine ⟨1, fun k hk => ?_⟩
    obtain ⟨k, rfl⟩ : ∃ m, k = m + 1 := ⟨k - 1, by omega⟩
    simp only [recantref11_May.l2]
    rw [if_neg (by omega)]; simp
  | succ d ih =>
    intro i hi
    obtain ⟨K, e⟩ := ih (i + 1) (by omega)
    have hw : recantref11_ways.f l0 (i : Int) (l0.length : Int) = some (waysF l0 (i : Int) l0.length) := by
      unfold recantref11_ways.f
      rw [if_pos ⟨hu, hn, by omega, by omega, by omega, by omega⟩, Int.toNat_natCast]
    have hl := (ways_ok l0 (i : Int) l0.length).len
    obtain ⟨K1, e1⟩ := has_f (waysF l0 (i : Int) l0.length) (i : Int) (by omega)
    refine ⟨K + K1 + 1, fun k hk => ?_⟩
    obtain ⟨k, rfl⟩ : ∃ m, k = m + 1 := ⟨k - 1, by omega⟩
    simp only [recantref11_May.l2]
    have e1' := e1 k (by omega)
    dsimp only at e1'
    rw [if_pos (by omega), hw, Option.bind_some, e1', Option.bind_some, List.range'_succ, List.any_cons]
    cases hc : (waysF l0 (i : Int) l0.length).contains (i : Int) with
    | true => simp
    | false =>
      rw [if_neg (by simp), w64 (by omega) (by omega), show ((i : Int) + 1) = ((i + 1 : Nat) : Int) by omega, Bool.false_or]
      exact e k (by omega)
theorem may11_ev (l0 : List Int) (hu : InU l0) (hn : l0.length ≤ 6) (d : Nat) : ∀ i : Nat, i + d = l0.length → Ev (fun k => recantref11_May.l0 k l0 l0 (l0.length : Int) (i : Int)) (if (l0.drop i).any (fun x => decide (2 ^ l0.length ≤ x)) then 1 else if cycB l0 then 8 else 0) := by
  induction d with
  | zero =>
    intro i hi
    obtain ⟨K, e⟩ := may2_ev l0 hu hn l0.length 0 (by omega)
    refine ⟨K + 1, fun k hk => ?_⟩
    obtain ⟨k, rfl⟩ : ∃ m, k = m + 1 := ⟨k - 1, by omega⟩
    simp only [recantref11_May.l0]
    rw [if_neg (by omega), show i = l0.length by omega, List.drop_length]
    have := e k (by omega)
    rw [← List.range_eq_range', ways_cyc l0 hu hn] at this
    simpa using this
  | succ d ih =>
    intro i hi
    have hx := hu _ (rd_mem (l := l0) (i := i) (by omega))
    have hg : rd l0 (i : Int) = l0[i]'(by omega) := by
      have := rd_some (l := l0) (i := i) (by omega)
      rw [List.getElem?_eq_getElem (by omega)] at this
      exact (Option.some.inj this).symm
    have hp : (0 : Int) < 2 ^ l0.length := Int.pow_pos (by decide)
    have hin := may11_in l0.length l0 l0 (rd l0 (i : Int)) (l0.length : Int) (i : Int) 0 (if (l0.drop i).any (fun x => decide (2 ^ l0.length ≤ x)) then 1 else if cycB l0 then 8 else 0) hx.1 hx.2 (by omega) (by omega) (by omega) (by
      intro hz
      have := ih (i + 1) (by omega)
      rw [w64 (by omega) (by omega), show ((i : Int) + 1) = ((i + 1 : Nat) : Int) by omega, List.drop_eq_getElem_cons (by omega : i < l0.length), List.any_cons]
      have hlt : ¬ 2 ^ l0.length ≤ l0[i]'(by omega) := by
        rw [← hg]; intro h
        have := (Int.le_ediv_iff_mul_le hp).2 (by omega : 1 * 2 ^ l0.length ≤ rd l0 (i : Int))
        omega
      rw [decide_eq_false hlt, Bool.false_or]
      exact this) (by
      intro hz
      rw [List.drop_eq_getElem_cons (by omega : i < l0.length), List.any_cons]
      have hle : 2 ^ l0.length ≤ l0[i]'(by omega) := by
        rw [← hg]
        have := Int.mul_le_of_le_ediv hp (by omega : 1 ≤ rd l0 (i : Int) / 2 ^ l0.length)
        omega
      rw [decide_eq_true hle]; simp)
    obtain ⟨K, e⟩ := hin
    refine ⟨K + 1, fun k hk => ?_⟩
    obtain ⟨k, rfl⟩ : ∃ m, k = m + 1 := ⟨k - 1, by omega⟩
    simp only [recantref11_May.l0]
    rw [if_pos (by omega), if_pos (by omega), if_pos (by omega)]
    exact e k (by omega)
theorem may11_f (l0 : List Int) (hu : InU l0) : Ev (fun k => recantref11_May.f k l0) (mayE l0) := by
  unfold mayE mayB
  by_cases hn : l0.length ≤ 6
  · obtain ⟨K, e⟩ := may11_ev l0 hu hn l0.length 0 (by omega)
    refine ⟨K, fun k hk => ?_⟩
    have := e k hk
    rw [List.drop_zero] at this
    simp only [recantref11_May.f]
    rw [if_neg (by omega), decide_eq_true hn, Bool.true_and]
    dsimp only at this
    rw [show (0 : Int) = ((0 : Nat) : Int) from rfl, this]
    cases l0.any fun x => decide (2 ^ l0.length ≤ x) <;> simp
  · refine ⟨0, fun k _ => ?_⟩
    simp only [recantref11_May.f]
    rw [if_pos (by omega), decide_eq_false hn]; simp
end Go.Proofs.Ytimbamimabdmcaa.U

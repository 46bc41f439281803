/- Plain lemmas on cycles: ours (in breadth) and the reference's (row by row). -/
import Derived.Test.YtimbamimabdmcaaUNum
import Derived.Test.YtimbamimabdmcaaGLeast
import Derived.Test.YtimbamimabdmcaaP3
import Derived.Test.YtimbamimabdmcaaP2
namespace Go.Proofs.Ytimbamimabdmcaa.U
set_option linter.unusedVariables false
set_option linter.unusedSimpArgs false
open Go Go.RowKit Go.Proofs.Ytimbamimabdmcaa.P Go.Proofs.YtimbamimabdmcaaW.PrintWords Go.Proofs.YtimbamimabdmcaaW.PrintLast Go.Proofs.YtimbamimabdmcaaW.PrintMore

def InU (l : List Int) : Prop := ∀ x ∈ l, 0 ≤ x ∧ x < 4294967296
def InN (n : Nat) (l : List Int) : Prop := ∀ x ∈ l, 0 ≤ x ∧ x < n
theorem rd_mem {l : List Int} {i : Nat} (h : i < l.length) : rd l (i : Int) ∈ l := by
  unfold rd; simp [List.getD_eq_getElem?_getD, List.getElem?_eq_getElem h]
theorem rd_some {l : List Int} {i : Nat} (h : i < l.length) : l[i]? = some (rd l (i : Int)) := by
  unfold rd; simp [List.getD_eq_getElem?_getD, List.getElem?_eq_getElem h]
theorem rd_mem_i {l : List Int} {i : Int} (h0 : 0 ≤ i) (h : i < l.length) : rd l i ∈ l := by
  obtain ⟨j, rfl⟩ := Int.eq_ofNat_of_zero_le h0
  exact rd_mem (by omega)
def bitB (a : Int) (i : Nat) : Bool := decide (a / 2 ^ i % 2 = 1)
theorem bitAt_eq (m : Int) (i : Nat) (h0 : 0 ≤ m) (h1 : m < 4294967296) (hi : i ≤ 32) : bitAt m i = m / 2 ^ i % 2 := by
  unfold bitAt
  rw [Nat.min_eq_left hi]
  have hp : (0 : Int) < 2 ^ i := Int.pow_pos (by decide)
  have h2 : 0 ≤ m / 2 ^ i := Int.ediv_nonneg h0 (Int.le_of_lt hp)
  have h3 : m / 2 ^ i ≤ m := Int.ediv_le_self _ h0
  exact Go.bits_mask .u32 32 (by decide) (fun n a b => by rw [IntKind.wrap_u32]; omega) 1 (by decide) (m / 2 ^ i) h2 (by omega)
theorem bitAt_iff (m : Int) (i : Nat) (h0 : 0 ≤ m) (h1 : m < 4294967296) (hi : i ≤ 32) : (bitAt m i == 1) = bitB m i := by
  rw [bitAt_eq m i h0 h1 hi]; unfold bitB
  rcases (by omega : m / 2 ^ i % 2 = 1 ∨ ¬ m / 2 ^ i % 2 = 1) with h | h
  · rw [h]; rfl
  · rw [decide_eq_false h]; simpa using h
def Mask (m : Int) (s : List Int) : Prop := 0 ≤ m ∧ m < 64 ∧ ∀ i : Nat, i < 6 → (m / 2 ^ i % 2 = 1 ↔ (i : Int) ∈ s)
set_option maxRecDepth 100000 in
theorem or_table : ∀ m : Fin 64, ∀ i : Fin 6, (orBit ((m.val : Nat) : Int) i.val).toNat < 64 ∧ 0 ≤ orBit ((m.val : Nat) : Int) i.val ∧ ∀ j : Fin 6, (orBit ((m.val : Nat) : Int) i.val / 2 ^ j.val % 2 = 1 ↔ (((m.val : Nat) : Int) / 2 ^ j.val % 2 = 1 ∨ j = i)) := by decide +kernel
theorem mask_or {m : Int} {s : List Int} {i : Nat} (h : Mask m s) (hi : i < 6) : Mask (orBit m i) (s ++ [(i : Int)]) := by
  obtain ⟨h0, h1, h2⟩ := h
  obtain ⟨k, rfl⟩ := Int.eq_ofNat_of_zero_le h0
  obtain ⟨t1, t2, t3⟩ := or_table ⟨k, by omega⟩ ⟨i, hi⟩
  refine ⟨t2, by dsimp only at t1; omega, fun j hj => ?_⟩
  have := t3 ⟨j, hj⟩
  dsimp only at this
  rw [this, List.mem_append, List.mem_singleton, h2 j hj]
  constructor
  · rintro (a | a)
    · exact .inl a
    · right; have := congrArg Fin.val a; dsimp only at this; omega
  · rintro (a | a)
    · exact .inl a
    · right; apply Fin.ext; dsimp only; omega
/-- Of a row: place k. -/
def okAt (l0 row : List Int) (k : Nat) : Bool := !(row.take k).contains (rd row (k : Int)) && bitB (rd l0 (rd row (k : Int))) (rd row (((k + 1) % row.length : Nat) : Int)).toNat
def okFrom (l0 row : List Int) : Nat → Nat → Bool
  | 0, _ => decide (0 < row.length)
  | d + 1, k => okAt l0 row k && okFrom l0 row d (k + 1)
def walkS (l0 row : List Int) : Bool := okFrom l0 row row.length 0
theorem okFrom_iff (l0 row : List Int) (d : Nat) : ∀ k, okFrom l0 row d k = true ↔ (0 < row.length ∧ ∀ j, k ≤ j → j < k + d → okAt l0 row j = true) := by
  induction d with
  | zero => intro k; simp only [okFrom, decide_eq_true_eq]; exact ⟨fun h => ⟨h, fun j h1 h2 => by omega⟩, fun h => h.1⟩
  | succ d ih =>
    intro k
    simp only [okFrom, Bool.and_eq_true]
    rw [ih]
    constructor
    · rintro ⟨h1, h2, h3⟩
      refine ⟨h2, fun j a b => ?_⟩
      rcases Nat.eq_or_lt_of_le a with e | e
      · subst e; exact h1
      · exact h3 j e (by omega)
    · rintro ⟨h2, h3⟩
      exact ⟨h3 k (Nat.le_refl _) (by omega), h2, fun j a b => h3 j (by omega) (by omega)⟩
theorem walkGo_eq (l0 row : List Int) (hu : InU l0) (hn : l0.length ≤ 6) (hr : InN l0.length row) (d : Nat) : ∀ m k, k + d = row.length → Mask m (row.take k) → walkGo l0 row d m k = okFrom l0 row d k := by
  induction d with
  | zero => intro m k _ _; rfl
  | succ d ih =>
    intro m k hk hM
    have h1 := hr _ (rd_mem (l := row) (i := k) (by omega))
    have h2 := hr _ (rd_mem (l := row) (i := (k + 1) % row.length) (Nat.mod_lt _ (by omega)))
    unfold walkGo okFrom okAt
    obtain ⟨x, hx⟩ : ∃ x, x = rd row (k : Int) := ⟨_, rfl⟩
    obtain ⟨y, hy⟩ : ∃ y, y = rd row (((k + 1) % row.length : Nat) : Int) := ⟨_, rfl⟩
    rw [← hx] at h1 ⊢
    rw [← hy] at h2 ⊢
    obtain ⟨i, rfl⟩ := Int.eq_ofNat_of_zero_le h1.1
    obtain ⟨j, rfl⟩ := Int.eq_ofNat_of_zero_le h2.1
    rw [Int.toNat_natCast, Int.toNat_natCast]
    have h3 := hu _ (rd_mem (l := l0) (i := i) (by omega))
    have hb1 : bitAt m i = 1 ↔ (row.take k).contains (i : Int) = true := by
      rw [bitAt_eq m i hM.1 (by have := hM.2.1; omega) (by omega), hM.2.2 i (by omega), List.contains_iff_mem]
    have hb2 := bitAt_iff (rd l0 (i : Int)) j h3.1 h3.2 (by omega)
    have hb3 : bitAt (rd l0 (i : Int)) j = 0 ↔ bitB (rd l0 (i : Int)) j = false := by
      rw [bitAt_eq _ j h3.1 h3.2 (by omega)]; unfold bitB; rw [decide_eq_false_iff_not]; omega
    have hs : row.take (k + 1) = row.take k ++ [(i : Int)] := by
      rw [List.take_succ_eq_append_getElem (by omega)]
      congr 2
      have := rd_some (l := row) (i := k) (by omega)
      rw [← hx, List.getElem?_eq_getElem (by omega)] at this
      exact Option.some.inj this
    by_cases c1 : bitAt m i = 1
    · rw [if_pos c1, hb1.1 c1]; rfl
    · rw [if_neg c1]
      have c1' : (row.take k).contains (i : Int) = false := by
        rw [Bool.eq_false_iff]; exact fun h => c1 (hb1.2 h)
      rw [c1']
      by_cases c2 : bitAt (rd l0 (i : Int)) j = 0
      · rw [if_pos c2, hb3.1 c2]; rfl
      · rw [if_neg c2]
        have c2' : bitB (rd l0 (i : Int)) j = true := by
          rcases Bool.eq_false_or_eq_true (bitB (rd l0 (i : Int)) j) with h | h
          · exact h
          · exact absurd (hb3.2 h) c2
        rw [c2']
        have := ih (orBit m i) (k + 1) (by omega) (by rw [hs]; exact mask_or hM (by omega))
        simpa using this
theorem walk_eq (l0 row : List Int) (hu : InU l0) (hn : l0.length ≤ 6) (hr : InN l0.length row) : walkGo l0 row row.length 0 0 = walkS l0 row :=
  walkGo_eq l0 row hu hn hr row.length 0 0 (by omega) ⟨by decide, by decide, fun i hi => by simp⟩

/-! ### the reference's -/
theorem half_eq (a : Int) (h0 : 0 ≤ a) (h1 : a < 4294967296) : Int.tdiv a 2 % 4294967296 = a / 2 := by
  rw [Int.tdiv_eq_ediv_of_nonneg h0]; omega
theorem bit_ev (d : Nat) : ∀ (a x1 i : Int), 0 ≤ a → a < 4294967296 → 0 ≤ i → i + d = x1 → x1 < 1000000 → Ev (fun k => recantref09_Bit.l0 k a x1 i) (bitB a d) := by
  induction d with
  | zero =>
    intro a x1 i h0 h1 hi hd hx
    refine ⟨1, fun k hk => ?_⟩
    obtain ⟨k, rfl⟩ : ∃ m, k = m + 1 := ⟨k - 1, by omega⟩
    simp only [recantref09_Bit.l0]
    rw [if_neg (by omega)]
    unfold bitB
    rw [Int.tmod_eq_emod_of_nonneg h0]
    congr 1
    rcases (by omega : a % 2 = 1 ∨ a % 2 = 0) with h | h
    · rw [h]; simp [h]
    · rw [h]; simp [h]
  | succ d ih =>
    intro a x1 i h0 h1 hi hd hx
    obtain ⟨K, e⟩ := ih (a / 2) x1 (i + 1) (by omega) (by omega) (by omega) (by omega) hx
    refine ⟨K + 1, fun k hk => ?_⟩
    obtain ⟨k, rfl⟩ : ∃ m, k = m + 1 := ⟨k - 1, by omega⟩
    simp only [recantref09_Bit.l0]
    rw [if_pos (by omega), half_eq a h0 h1, w64 (by omega) (by omega)]
    have := e k (by omega)
    dsimp only at this
    rw [this]
    congr 1
    unfold bitB
    rw [Int.ediv_ediv_of_nonneg (by decide), ← Int.pow_succ']
theorem bit_f (a : Int) (i : Nat) (h0 : 0 ≤ a) (h1 : a < 4294967296) (hi : i < 1000000) : Ev (fun k => recantref09_Bit.f k a i) (bitB a i) :=
  bit_ev i a i 0 h0 h1 (by omega) (by omega) (by omega)
theorem has_ev (l : List Int) (a : Int) (hl : l.length < 1000000) (d : Nat) : ∀ i : Nat, i + d = l.length → Ev (fun k => recantref02_Has.l0 k a l (l.length : Int) (i : Int)) ((l.drop i).contains a) := by
  induction d with
  | zero =>
    intro i hi
    refine ⟨1, fun k hk => ?_⟩
    obtain ⟨k, rfl⟩ : ∃ m, k = m + 1 := ⟨k - 1, by omega⟩
    simp only [recantref02_Has.l0]
    rw [if_neg (by omega), show i = l.length by omega, List.drop_length]; rfl
  | succ d ih =>
    intro i hi
    obtain ⟨K, e⟩ := ih (i + 1) (by omega)
    refine ⟨K + 1, fun k hk => ?_⟩
    obtain ⟨k, rfl⟩ : ∃ m, k = m + 1 := ⟨k - 1, by omega⟩
    simp only [recantref02_Has.l0]
    rw [if_pos (by omega), if_pos (by omega), if_pos (by omega), List.drop_eq_getElem_cons (by omega : i < l.length)]
    have hg : rd l (i : Int) = l[i]'(by omega) := by
      have := rd_some (l := l) (i := i) (by omega)
      rw [List.getElem?_eq_getElem (by omega)] at this
      exact (Option.some.inj this).symm
    rw [hg, List.contains_cons]
    by_cases h : l[i]'(by omega) = a
    · rw [if_pos h, h]; simp
    · rw [if_neg h, w64 (by omega) (by omega), show ((i : Int) + 1) = ((i + 1 : Nat) : Int) by omega]
      have := e k (by omega)
      dsimp only at this
      rw [this]
      congr 1
      have hne : (a == l[i]'(by omega)) = false := by
        rw [beq_eq_false_iff_ne]; exact fun h2 => h h2.symm
      rw [hne, Bool.false_or]
theorem has_f (l : List Int) (a : Int) (hl : l.length < 1000000) : Ev (fun k => recantref02_Has.f k l a) (l.contains a) := by
  have := has_ev l a hl l.length 0 (by omega)
  rw [List.drop_zero] at this
  exact this
theorem rwalk_ev (l0 row : List Int) (hu : InU l0) (hn : l0.length ≤ 8) (hr : InN l0.length row) (hl : row.length < 1000000) (d : Nat) : ∀ i : Nat, i + d = row.length → Ev (fun k => recantref18_Walk.l0 k l0 row row (row.length : Int) (i : Int)) (okFrom l0 row d i) := by
  induction d with
  | zero =>
    intro i hi
    refine ⟨1, fun k hk => ?_⟩
    obtain ⟨k, rfl⟩ : ∃ m, k = m + 1 := ⟨k - 1, by omega⟩
    simp only [recantref18_Walk.l0]
    rw [if_neg (by omega)]
    unfold okFrom
    congr 1
    rw [decide_eq_decide]; omega
  | succ d ih =>
    intro i hi
    obtain ⟨K, e⟩ := ih (i + 1) (by omega)
    have hx := hr _ (rd_mem (l := row) (i := i) (by omega))
    obtain ⟨K1, e1⟩ := has_f (row.take i) (rd row (i : Int)) (by rw [List.length_take]; omega)
    have hnext : (if ((i + 1 : Nat) : Int) < (row.length : Int) then rd row ((i + 1 : Nat) : Int) else rd row 0) = rd row (((i + 1) % row.length : Nat) : Int) := by
      by_cases h : i + 1 < row.length
      · rw [if_pos (by omega), Nat.mod_eq_of_lt h]
      · rw [if_neg (by omega), show i + 1 = row.length by omega, Nat.mod_self]; rfl
    have hy := hr _ (rd_mem (l := row) (i := (i + 1) % row.length) (Nat.mod_lt _ (by omega)))
    obtain ⟨y, hyd⟩ : ∃ y, y = rd row (((i + 1) % row.length : Nat) : Int) := ⟨_, rfl⟩
    obtain ⟨x, hxd⟩ : ∃ x, x = rd row (i : Int) := ⟨_, rfl⟩
    rw [← hyd] at hnext hy
    rw [← hxd] at hx e1
    have hj : ∀ k, (recantref18_Walk.l0 (k + 1) l0 row row (row.length : Int) (i : Int)) = recantref18_Walk.j1 k l0 row (i : Int) x y row (row.length : Int) (i : Int) := by
      intro k
      simp only [recantref18_Walk.l0]
      rw [if_pos (by omega), if_pos (by omega), if_pos (by omega), if_pos (by omega), w64 (by omega) (by omega), ← hxd]
      rw [show ((i : Int) + 1) = ((i + 1 : Nat) : Int) by omega]
      by_cases h : ((i + 1 : Nat) : Int) < (row.length : Int)
      · rw [if_pos h, if_pos (by omega)]
        rw [if_pos h] at hnext
        rw [hnext]
      · rw [if_neg h]
        rw [if_neg h] at hnext
        rw [hnext]
    obtain ⟨jy, rfl⟩ := Int.eq_ofNat_of_zero_le hy.1
    have hxu := hu _ (rd_mem_i (l := l0) hx.1 (by omega))
    obtain ⟨K2, e2⟩ := bit_f (rd l0 x) jy hxu.1 hxu.2 (by omega)
    refine ⟨K + K1 + K2 + 3, fun k hk => ?_⟩
    obtain ⟨k, rfl⟩ : ∃ m, k = m + 1 := ⟨k - 1, by omega⟩
    dsimp only
    rw [hj k]
    obtain ⟨k, rfl⟩ : ∃ m, k = m + 1 := ⟨k - 1, by omega⟩
    simp only [recantref18_Walk.j1]
    have e1' := e1 k (by omega)
    have e2' := e2 k (by omega)
    have e' := e k (by omega)
    dsimp only at e1' e2' e'
    rw [if_pos (by omega), if_pos (by omega), Int.toNat_natCast, e1', Option.bind_some]
    unfold okFrom okAt
    rw [← hxd, ← hyd, Int.toNat_natCast]
    by_cases c1 : (row.take i).contains x = true
    · rw [if_pos c1, c1]; rfl
    · rw [if_neg c1, if_pos hx.1, if_pos hx.2, e2', Option.bind_some, Bool.eq_false_iff.2 c1]
      by_cases c2 : bitB (rd l0 x) jy = true
      · rw [if_pos c2, c2, w64 (by omega) (by omega), show ((i : Int) + 1) = ((i + 1 : Nat) : Int) by omega, e']; simp
      · rw [if_neg c2, Bool.eq_false_iff.2 c2]; rfl
theorem rwalk_f (l0 row : List Int) (hu : InU l0) (hn : l0.length ≤ 8) (hr : InN l0.length row) (hl : row.length < 1000000) : Ev (fun k => recantref18_Walk.f k l0 row) (walkS l0 row) :=
  rwalk_ev l0 row hu hn hr hl row.length 0 (by omega)

/-! ### may they be? -/
theorem may_in (d : Nat) : ∀ (l0 l : List Int) (a x5 x6 : Int) (j : Int) (r : Bool), 0 ≤ a → a < 4294967296 → 0 ≤ j → j + d = l0.length → l0.length < 1000000 →
    (a / 2 ^ d ≤ 0 → Ev (fun k => recantref18_May.l0 k l0 l x5 (wrap64 (x6 + 1))) r) → (0 < a / 2 ^ d → r = false) → Ev (fun k => recantref18_May.l1 k l0 a l x5 x6 (l0.length : Int) j) r := by
  induction d with
  | zero =>
    intro l0 l a x5 x6 j r h0 h1 hj hd hl hz hp
    by_cases ha : 0 < a
    · refine ⟨1, fun k hk => ?_⟩
      obtain ⟨k, rfl⟩ : ∃ m, k = m + 1 := ⟨k - 1, by omega⟩
      simp only [recantref18_May.l1]
      rw [if_neg (by omega), if_pos ha, hp (by simpa using ha)]
    · obtain ⟨K, e⟩ := hz (by simp; omega)
      refine ⟨K + 1, fun k hk => ?_⟩
      obtain ⟨k, rfl⟩ : ∃ m, k = m + 1 := ⟨k - 1, by omega⟩
      simp only [recantref18_May.l1]
      rw [if_neg (by omega), if_neg ha]
      exact e k (by omega)
  | succ d ih =>
    intro l0 l a x5 x6 j r h0 h1 hj hd hl hz hp
    have hdd : a / 2 / 2 ^ d = a / 2 ^ (d + 1) := by rw [Int.ediv_ediv_of_nonneg (by decide), ← Int.pow_succ']
    obtain ⟨K, e⟩ := ih l0 l (a / 2) x5 x6 (j + 1) r (by omega) (by omega) (by omega) (by omega) hl (by rw [hdd]; exact hz) (by rw [hdd]; exact hp)
    refine ⟨K + 1, fun k hk => ?_⟩
    obtain ⟨k, rfl⟩ : ∃ m, k = m + 1 := ⟨k - 1, by omega⟩
    simp only [recantref18_May.l1]
    rw [if_pos (by omega), half_eq a h0 h1, w64 (by omega) (by omega)]
    exact e k (by omega)
theorem may_ev (l0 : List Int) (hu : InU l0) (hl : l0.length < 1000000) (d : Nat) : ∀ i : Nat, i + d = l0.length → Ev (fun k => recantref18_May.l0 k l0 l0 (l0.length : Int) (i : Int)) (decide (l0.length ≤ 6) && !(l0.drop i).any (fun x => decide (2 ^ l0.length ≤ x))) := by
  induction d with
  | zero =>
    intro i hi
    refine ⟨1, fun k hk => ?_⟩
    obtain ⟨k, rfl⟩ : ∃ m, k = m + 1 := ⟨k - 1, by omega⟩
    simp only [recantref18_May.l0]
    rw [if_neg (by omega), show i = l0.length by omega, List.drop_length]
    simp only [List.any_nil, Bool.not_false, Bool.and_true]
    congr 1
    rw [decide_eq_decide]; omega
  | succ d ih =>
    intro i hi
    have hx := hu _ (rd_mem (l := l0) (i := i) (by omega))
    have hg : rd l0 (i : Int) = l0[i]'(by omega) := by
      have := rd_some (l := l0) (i := i) (by omega)
      rw [List.getElem?_eq_getElem (by omega)] at this
      exact (Option.some.inj this).symm
    have hp : (0 : Int) < 2 ^ l0.length := Int.pow_pos (by decide)
    have hin := may_in l0.length l0 l0 (rd l0 (i : Int)) (l0.length : Int) (i : Int) 0 (decide (l0.length ≤ 6) && !(l0.drop i).any (fun x => decide (2 ^ l0.length ≤ x))) hx.1 hx.2 (by omega) (by omega) hl (by
      intro hz
      have := ih (i + 1) (by omega)
      rw [w64 (by omega) (by omega), show ((i : Int) + 1) = ((i + 1 : Nat) : Int) by omega, List.drop_eq_getElem_cons (by omega : i < l0.length), List.any_cons]
      have hlt : ¬ 2 ^ l0.length ≤ l0[i]'(by omega) := by
        rw [← hg]; intro h
        have := (Int.le_ediv_iff_mul_le hp).2 (by omega : 1 * 2 ^ l0.length ≤ rd l0 (i : Int))
        omega
      rw [decide_eq_false hlt, Bool.false_or]
      exact this) (by
      intro hz
      rw [List.drop_eq_getElem_cons (by omega : i < l0.length), List.any_cons]
      have hle : 2 ^ l0.length ≤ l0[i]'(by omega) := by
        rw [← hg]
        have := Int.mul_le_of_le_ediv hp (by omega : 1 ≤ rd l0 (i : Int) / 2 ^ l0.length)
        omega
      rw [decide_eq_true hle]; simp)
    obtain ⟨K, e⟩ := hin
    refine ⟨K + 1, fun k hk => ?_⟩
    obtain ⟨k, rfl⟩ : ∃ m, k = m + 1 := ⟨k - 1, by omega⟩
    simp only [recantref18_May.l0]
    rw [if_pos (by omega), if_pos (by omega), if_pos (by omega)]
    exact e k (by omega)
theorem may_f (l0 : List Int) (hu : InU l0) (hl : l0.length < 1000000) : Ev (fun k => recantref18_May.f k l0) (mayB l0) := by
  have := may_ev l0 hu hl l0.length 0 (by omega)
  rw [List.drop_zero] at this
  exact this
theorem ints_ev (a b : List Int) (hl : a.length < 1000000) (hab : a.length = b.length) (d : Nat) : ∀ i : Nat, i + d = a.length → Ev (fun k => recantref01_Ints.l0 k a b (a.length : Int) (i : Int)) (decide (a.drop i = b.drop i)) := by
  induction d with
  | zero =>
    intro i hi
    refine ⟨1, fun k hk => ?_⟩
    obtain ⟨k, rfl⟩ : ∃ m, k = m + 1 := ⟨k - 1, by omega⟩
    simp only [recantref01_Ints.l0]
    rw [if_neg (by omega), List.drop_of_length_le (by omega), List.drop_of_length_le (by omega)]; simp
  | succ d ih =>
    intro i hi
    obtain ⟨K, e⟩ := ih (i + 1) (by omega)
    refine ⟨K + 1, fun k hk => ?_⟩
    obtain ⟨k, rfl⟩ : ∃ m, k = m + 1 := ⟨k - 1, by omega⟩
    simp only [recantref01_Ints.l0]
    rw [if_pos (by omega), if_pos (by omega), if_pos (by omega), if_pos (by omega)]
    have ga : rd a (i : Int) = a[i]'(by omega) := by
      have := rd_some (l := a) (i := i) (by omega)
      rw [List.getElem?_eq_getElem (by omega)] at this
      exact (Option.some.inj this).symm
    have gb : rd b (i : Int) = b[i]'(by omega) := by
      have := rd_some (l := b) (i := i) (by omega)
      rw [List.getElem?_eq_getElem (by omega)] at this
      exact (Option.some.inj this).symm
    rw [List.drop_eq_getElem_cons (by omega : i < a.length), List.drop_eq_getElem_cons (by omega : i < b.length), ga, gb]
    have e' := e k (by omega)
    dsimp only at e'
    by_cases h : a[i]'(by omega) = b[i]'(by omega)
    · rw [if_pos h, w64 (by omega) (by omega), show ((i : Int) + 1) = ((i + 1 : Nat) : Int) by omega, e']
      congr 1
      rw [decide_eq_decide, h]
      exact ⟨fun h => by rw [h], fun h => (List.cons.inj h).2⟩
    · rw [if_neg h, decide_eq_false (fun h2 => h (List.cons.inj h2).1)]
theorem ints_f (a b : List Int) (hl : a.length < 1000000) : Ev (fun k => recantref01_Ints.f k a b) (decide (a = b)) := by
  unfold recantref01_Ints.f
  by_cases h : a.length = b.length
  · obtain ⟨K, e⟩ := ints_ev a b hl h a.length 0 (by omega)
    refine ⟨K, fun k hk => ?_⟩
    dsimp only
    rw [if_pos (by omega)]
    have := e k hk
    rw [List.drop_zero, List.drop_zero] at this
    exact this
  · refine ⟨0, fun k hk => ?_⟩
    dsimp only
    rw [if_neg (by omega), decide_eq_false]
    intro h2; rw [h2] at h; exact h rfl

theorem least_214 : cycle_Least.f [2, 1, 4] = some ([2], 0) := by decide +kernel
theorem alive18 : Ev (fun k => recantlaw18_alive.f k) true := by
  obtain ⟨K, e⟩ := ints_f [2] [2] (by decide)
  refine ⟨K, fun k hk => ?_⟩
  simp only [recantlaw18_alive.f]
  rw [least_214, Option.bind_some, if_pos rfl]
  have := e k hk
  dsimp only at this ⊢
  rw [this]; rfl
/-! ### rows, row by row -/
def nexts (n : Nat) (r : List Int) (ks : List Nat) : List (List Int) := (ks.filter fun (k : Nat) => !r.contains (k : Int)).map fun (k : Nat) => r ++ [(k : Int)]
def rowsR (n : Nat) : Nat → List (List Int)
  | 0 => [[]]
  | L + 1 => (rowsR n L).flatMap fun r => nexts n r (List.range n)
theorem nexts_len (n : Nat) (r : List Int) (ks : List Nat) : (nexts n r ks).length ≤ ks.length := by
  unfold nexts; rw [List.length_map]; exact List.length_filter_le _ _
theorem nexts_cons (n : Nat) (r : List Int) (k : Nat) (ks : List Nat) : nexts n r (k :: ks) = (if r.contains (k : Int) then [] else [r ++ [(k : Int)]]) ++ nexts n r ks := by
  unfold nexts
  rw [List.filter_cons]
  cases h : r.contains (k : Int) <;> simp
theorem rows_in (n : Nat) (L : Nat) : ∀ r ∈ rowsR n L, r.length = L ∧ r.Nodup ∧ InN n r := by
  induction L with
  | zero => intro r hr; simp only [rowsR, List.mem_singleton] at hr; subst hr; exact ⟨rfl, List.nodup_nil, fun x hx => by cases hx⟩
  | succ L ih =>
    intro r hr
    simp only [rowsR, List.mem_flatMap, nexts, List.mem_map, List.mem_filter, List.mem_range] at hr
    obtain ⟨r0, h0, k, ⟨hk, hc⟩, rfl⟩ := hr
    obtain ⟨h1, h2, h3⟩ := ih r0 h0
    have hnc : (k : Int) ∉ r0 := by
      intro h; rw [← List.contains_iff_mem] at h; rw [h] at hc; cases hc
    refine ⟨by simp [h1], ?_, ?_⟩
    · rw [List.nodup_append]
      exact ⟨h2, by simp, fun a ha b hb => by rw [List.mem_singleton] at hb; subst hb; exact fun e => hnc (e ▸ ha)⟩
    · intro x hx
      rcases List.mem_append.1 hx with h | h
      · exact h3 x h
      · rw [List.mem_singleton] at h; subst h; omega
theorem rows_all (n : Nat) (L : Nat) : ∀ r : List Int, r.length = L → r.Nodup → InN n r → r ∈ rowsR n L := by
  induction L with
  | zero => intro r hr _ _; rw [List.eq_nil_of_length_eq_zero hr]; simp [rowsR]
  | succ L ih =>
    intro r hr hd hn
    obtain ⟨r0, x, rfl⟩ : ∃ r0 x, r = r0 ++ [x] := by
      rcases List.eq_nil_or_concat r with h | ⟨r0, x, h⟩
      · rw [h] at hr; simp at hr
      · exact ⟨r0, x, by rw [h, List.concat_eq_append]⟩
    rw [List.nodup_append] at hd
    have hx := hn x (by simp)
    obtain ⟨k, rfl⟩ := Int.eq_ofNat_of_zero_le hx.1
    simp only [rowsR, List.mem_flatMap, nexts, List.mem_map, List.mem_filter, List.mem_range]
    refine ⟨r0, ih r0 (by simp at hr; omega) hd.1 (fun y hy => hn y (by simp [hy])), k, ⟨by omega, ?_⟩, rfl⟩
    cases h : r0.contains (k : Int) with
    | false => rfl
    | true => rw [List.contains_iff_mem] at h; exact absurd rfl (hd.2.2 _ h _ (by simp))
theorem flat_le {α β : Type} (f : α → List β) (m : Nat) (h : ∀ a, (f a).length ≤ m) (l : List α) : (l.flatMap f).length ≤ l.length * m := by
  induction l with
  | nil => simp
  | cons a l ih =>
    have h1 := h a
    rw [List.flatMap_cons, List.length_append, List.length_cons, Nat.succ_mul]
    omega
theorem rows_len (n : Nat) (hn : n ≤ 6) (L : Nat) : (rowsR n L).length ≤ 6 ^ L := by
  induction L with
  | zero => simp [rowsR]
  | succ L ih =>
    have h := flat_le (fun r => nexts n r (List.range n)) 6 (fun r => Nat.le_trans (nexts_len n r _) (by simpa using hn)) (rowsR n L)
    simp only [rowsR]
    rw [Nat.pow_succ]
    exact Nat.le_trans h (Nat.mul_le_mul_right _ ih)
theorem rows_over (n L : Nat) (h : n < L) : rowsR n L = [] := by
  rcases List.eq_nil_or_concat (rowsR n L) with h1 | ⟨t, r, h1⟩
  · exact h1
  · obtain ⟨a, b, c⟩ := rows_in n L r (by rw [h1]; simp)
    have hs : r ⊆ (List.range n).map (fun (k : Nat) => (k : Int)) := by
      intro x hx
      obtain ⟨x0, x1⟩ := c x hx
      obtain ⟨k, rfl⟩ := Int.eq_ofNat_of_zero_le x0
      exact List.mem_map.2 ⟨k, List.mem_range.2 (by omega), rfl⟩
    have := List.Nodup.length_le_of_subset b hs
    simp at this
    omega
/-- What is told: the first row, by length and then by places, that is a cycle. -/
def resS (l0 : List Int) : Nat → Nat → List Int × Int
  | 0, _ => ([], 7)
  | d + 1, L => match (rowsR l0.length L).find? (walkS l0) with
    | some r => (r, 0)
    | none => resS l0 d (L + 1)
/-! #### the reference's loops -/
theorem with_f (r : List Int) (a : Int) (h : r.length < 1000) : recantref18_with.f r a = some (r ++ [a]) := by
  simp only [recantref18_with.f]
  rw [Option.bind_some, if_pos (by simp; omega), Option.bind_some, List.nil_append, if_pos (by omega)]
theorem l2_ev (l0 r : List Int) (hr : r.length < 1000) (hn : l0.length ≤ 6) (x13 x14 x18 x19 : Int) (x17 : List (List Int)) (res : List Int) (d : Nat) : ∀ (i : Nat) (x4 : List (List Int)), i + d = l0.length → x4.length + d ≤ 10000000 →
    Ev (fun k => recantref18_Least.l1 k l0 (x4 ++ nexts l0.length r ((List.range l0.length).drop i)) x13 x14 x17 x18 (wrap64 (x19 + 1))) res → Ev (fun k => recantref18_Least.l2 k l0 x4 r x13 x14 x17 x18 x19 (l0.length : Int) (i : Int)) res := by
  induction d with
  | zero =>
    intro i x4 hi hx he
    obtain ⟨K, e⟩ := he
    refine ⟨K + 1, fun k hk => ?_⟩
    obtain ⟨k, rfl⟩ : ∃ m, k = m + 1 := ⟨k - 1, by omega⟩
    simp only [recantref18_Least.l2]
    rw [if_neg (by omega)]
    have := e k (by omega)
    rw [List.drop_of_length_le (by simp; omega)] at this
    simpa [nexts] using this
  | succ d ih =>
    intro i x4 hi hx he
    obtain ⟨K1, e1⟩ := has_f r (i : Int) (by omega)
    rw [List.drop_eq_getElem_cons (by simp; omega), List.getElem_range, nexts_cons] at he
    cases hc : r.contains (i : Int) with
    | true =>
      rw [hc, if_pos rfl, List.nil_append] at he
      obtain ⟨K, e⟩ := ih (i + 1) x4 (by omega) (by omega) he
      refine ⟨K + K1 + 1, fun k hk => ?_⟩
      obtain ⟨k, rfl⟩ : ∃ m, k = m + 1 := ⟨k - 1, by omega⟩
      simp only [recantref18_Least.l2]
      have e1' := e1 k (by omega)
      dsimp only at e1'
      rw [if_pos (by omega), e1', hc, Option.bind_some, if_pos rfl, w64 (by omega) (by omega), show ((i : Int) + 1) = ((i + 1 : Nat) : Int) by omega]
      exact e k (by omega)
    | false =>
      rw [hc, if_neg (by simp), ← List.append_assoc] at he
      obtain ⟨K, e⟩ := ih (i + 1) (x4 ++ [r ++ [(i : Int)]]) (by omega) (by simp; omega) he
      refine ⟨K + K1 + 1, fun k hk => ?_⟩
      obtain ⟨k, rfl⟩ : ∃ m, k = m + 1 := ⟨k - 1, by omega⟩
      simp only [recantref18_Least.l2]
      have e1' := e1 k (by omega)
      dsimp only at e1'
      rw [if_pos (by omega), e1', hc, Option.bind_some, if_neg (by simp), with_f r i hr, Option.bind_some, if_pos (by omega), w64 (by omega) (by omega), show ((i : Int) + 1) = ((i + 1 : Nat) : Int) by omega]
      exact e k (by omega)
theorem rd3 (xs : List (List Int)) (i : Nat) (h : i < xs.length) : rd_L3 xs (i : Int) = xs[i] := by
  unfold rd_L3; simp [List.getD_eq_getElem?_getD, List.getElem?_eq_getElem h]
theorem l1_ev (l0 : List Int) (hn : l0.length ≤ 6) (x13 x14 : Int) (x17 : List (List Int)) (hx17 : ∀ r ∈ x17, r.length < 1000) (hl : x17.length ≤ 1000000) (res : List Int) (d : Nat) : ∀ (i : Nat) (x4 : List (List Int)), i + d = x17.length → x4.length + 6 * d ≤ 9000000 →
    Ev (fun k => recantref18_Least.l3 k l0 (x4 ++ (x17.drop i).flatMap fun r => nexts l0.length r (List.range l0.length)) x13 x14 (x4 ++ (x17.drop i).flatMap fun r => nexts l0.length r (List.range l0.length)) ((x4 ++ (x17.drop i).flatMap fun r => nexts l0.length r (List.range l0.length)).length : Int) 0) res →
    Ev (fun k => recantref18_Least.l1 k l0 x4 x13 x14 x17 (x17.length : Int) (i : Int)) res := by
  induction d with
  | zero =>
    intro i x4 hi hx he
    obtain ⟨K, e⟩ := he
    refine ⟨K + 1, fun k hk => ?_⟩
    obtain ⟨k, rfl⟩ : ∃ m, k = m + 1 := ⟨k - 1, by omega⟩
    simp only [recantref18_Least.l1]
    rw [if_neg (by omega)]
    have := e k (by omega)
    rw [List.drop_of_length_le (by omega), List.flatMap_nil, List.append_nil] at this
    exact this
  | succ d ih =>
    intro i x4 hi hx he
    have hmem : x17[i]'(by omega) ∈ x17 := List.getElem_mem _
    rw [List.drop_eq_getElem_cons (by omega : i < x17.length), List.flatMap_cons, ← List.append_assoc] at he
    have hnl := nexts_len l0.length (x17[i]'(by omega)) (List.range l0.length)
    rw [List.length_range] at hnl
    have h1 := ih (i + 1) (x4 ++ nexts l0.length (x17[i]'(by omega)) (List.range l0.length)) (by omega) (by rw [List.length_append]; omega) he
    obtain ⟨K, e⟩ := l2_ev l0 (x17[i]'(by omega)) (hx17 _ hmem) hn x13 x14 (x17.length : Int) (i : Int) x17 res l0.length 0 x4 (by omega) (by omega) (by
      rw [List.drop_zero, w64 (by omega) (by omega), show ((i : Int) + 1) = ((i + 1 : Nat) : Int) by omega]; exact h1)
    refine ⟨K + 1, fun k hk => ?_⟩
    obtain ⟨k, rfl⟩ : ∃ m, k = m + 1 := ⟨k - 1, by omega⟩
    simp only [recantref18_Least.l1]
    rw [if_pos (by omega), if_pos (by omega), if_pos (by omega), rd3 x17 i (by omega)]
    exact e k (by omega)
theorem l3_ev (l0 : List Int) (hu : InU l0) (hn : l0.length ≤ 6) (x13 x14 : Int) (x4 x40 : List (List Int)) (hx : ∀ r ∈ x40, r.length < 1000 ∧ InN l0.length r) (hl : x40.length ≤ 1000000) (res : List Int) (d : Nat) : ∀ i : Nat, i + d = x40.length →
    (match (x40.drop i).find? (walkS l0) with | some r => res = r | none => Ev (fun k => recantref18_Least.l0 k l0 x4 x13 (wrap64 (x14 + 1))) res) →
    Ev (fun k => recantref18_Least.l3 k l0 x4 x13 x14 x40 (x40.length : Int) (i : Int)) res := by
  induction d with
  | zero =>
    intro i hi he
    rw [List.drop_of_length_le (by omega), List.find?_nil] at he
    obtain ⟨K, e⟩ := he
    refine ⟨K + 1, fun k hk => ?_⟩
    obtain ⟨k, rfl⟩ : ∃ m, k = m + 1 := ⟨k - 1, by omega⟩
    simp only [recantref18_Least.l3]
    rw [if_neg (by omega)]
    exact e k (by omega)
  | succ d ih =>
    intro i hi he
    have hmem : x40[i]'(by omega) ∈ x40 := List.getElem_mem _
    obtain ⟨K1, e1⟩ := rwalk_f l0 (x40[i]'(by omega)) hu (by omega) (hx _ hmem).2 (by have := (hx _ hmem).1; omega)
    rw [List.drop_eq_getElem_cons (by omega : i < x40.length), List.find?_cons] at he
    cases hw : walkS l0 (x40[i]'(by omega)) with
    | true =>
      rw [hw] at he
      dsimp only at he
      refine ⟨K1 + 1, fun k hk => ?_⟩
      obtain ⟨k, rfl⟩ : ∃ m, k = m + 1 := ⟨k - 1, by omega⟩
      simp only [recantref18_Least.l3]
      have e1' := e1 k (by omega)
      dsimp only at e1'
      rw [if_pos (by omega), if_pos (by omega), if_pos (by omega), rd3 x40 i (by omega), e1', hw, Option.bind_some, if_pos rfl, he]
    | false =>
      rw [hw] at he
      obtain ⟨K, e⟩ := ih (i + 1) (by omega) he
      refine ⟨K + K1 + 1, fun k hk => ?_⟩
      obtain ⟨k, rfl⟩ : ∃ m, k = m + 1 := ⟨k - 1, by omega⟩
      simp only [recantref18_Least.l3]
      have e1' := e1 k (by omega)
      dsimp only at e1'
      rw [if_pos (by omega), if_pos (by omega), if_pos (by omega), rd3 x40 i (by omega), e1', hw, Option.bind_some, if_neg (by simp), w64 (by omega) (by omega), show ((i : Int) + 1) = ((i + 1 : Nat) : Int) by omega]
      exact e k (by omega)
theorem pow6_le (L : Nat) (h : L ≤ 6) : 6 ^ L ≤ 46656 := Nat.le_trans (Nat.pow_le_pow_right (by decide) h) (by decide)
theorem rleast_ev (l0 : List Int) (hu : InU l0) (hn : l0.length ≤ 6) (d : Nat) : ∀ L : Nat, L + d = l0.length → Ev (fun k => recantref18_Least.l0 k l0 (rowsR l0.length L) (l0.length : Int) (L : Int)) (resS l0 d (L + 1)).1 := by
  induction d with
  | zero =>
    intro L hL
    refine ⟨1, fun k hk => ?_⟩
    obtain ⟨k, rfl⟩ : ∃ m, k = m + 1 := ⟨k - 1, by omega⟩
    simp only [recantref18_Least.l0]
    rw [if_neg (by omega)]; rfl
  | succ d ih =>
    intro L hL
    have hi := ih (L + 1) (by omega)
    have hlen := rows_len l0.length hn L
    have hp := pow6_le L (by omega)
    have hlen2 := rows_len l0.length hn (L + 1)
    have hp2 := pow6_le (L + 1) (by omega)
    have h3 := l3_ev l0 hu hn (l0.length : Int) (L : Int) (rowsR l0.length (L + 1)) (rowsR l0.length (L + 1)) (fun r hr => by obtain ⟨a, b, c⟩ := rows_in _ _ r hr; exact ⟨by omega, c⟩) (by omega) (resS l0 (d + 1) (L + 1)).1 (rowsR l0.length (L + 1)).length 0 (by omega) (by
      rw [List.drop_zero]
      unfold resS
      cases hf : (rowsR l0.length (L + 1)).find? (walkS l0) with
      | some r => rfl
      | none =>
        dsimp only
        rw [w64 (by omega) (by omega), show ((L : Int) + 1) = ((L + 1 : Nat) : Int) by omega]
        exact hi)
    obtain ⟨K, e⟩ := l1_ev l0 hn (l0.length : Int) (L : Int) (rowsR l0.length L) (fun r hr => by obtain ⟨a, b, c⟩ := rows_in _ _ r hr; omega) (by omega) (resS l0 (d + 1) (L + 1)).1 (rowsR l0.length L).length 0 [] (by omega) (by simp; omega) (by
      rw [List.drop_zero, List.nil_append]; exact h3)
    refine ⟨K + 1, fun k hk => ?_⟩
    obtain ⟨k, rfl⟩ : ∃ m, k = m + 1 := ⟨k - 1, by omega⟩
    simp only [recantref18_Least.l0]
    rw [if_pos (by omega)]
    exact e k (by omega)
theorem rleast_f (l0 : List Int) (hu : InU l0) (hn : l0.length ≤ 6) : Ev (fun k => recantref18_Least.f k l0) (resS l0 l0.length 1).1 :=
  rleast_ev l0 hu hn l0.length 0 (by omega)

/-! ### ours -/
def closeB (l0 p : List Int) : Bool := edgeB l0 p (p.getD 0 0).toNat
def pathS (l0 p : List Int) : Bool := (List.range (p.length - 1)).all fun (k : Nat) => bitB (rd l0 (rd p (k : Int))) (rd p ((k + 1 : Nat) : Int)).toNat
theorem rd_append (p : List Int) (x : Int) (k : Nat) (h : k < p.length) : rd (p ++ [x]) (k : Int) = rd p (k : Int) := by
  unfold rd
  rw [Int.toNat_natCast, List.getD_eq_getElem?_getD, List.getD_eq_getElem?_getD, List.getElem?_append_left h]
theorem rd_end (p : List Int) (x : Int) : rd (p ++ [x]) (p.length : Int) = x := by
  unfold rd
  rw [Int.toNat_natCast, List.getD_eq_getElem?_getD, List.getElem?_append_right (Nat.le_refl _)]; simp
theorem last_rd (p : List Int) (h : 0 < p.length) : p.getLastD 0 = rd p ((p.length - 1 : Nat) : Int) := by
  unfold rd
  rw [Int.toNat_natCast, List.getD_eq_getElem?_getD, ← List.getLast?_eq_getElem?, List.getLastD_eq_getLast?]
theorem edge_bit (l0 p : List Int) (hu : InU l0) (h : 0 < p.length) (hp : InN l0.length p) (k : Nat) (hk : k ≤ 32) : edgeB l0 p k = bitB (rd l0 (rd p ((p.length - 1 : Nat) : Int))) k := by
  unfold edgeB
  rw [last_rd p h]
  have h1 := hp _ (rd_mem (l := p) (i := p.length - 1) (by omega))
  have h2 := hu _ (rd_mem_i (l := l0) h1.1 (by omega))
  exact bitAt_iff _ k h2.1 h2.2 hk
theorem path_snoc (l0 p : List Int) (hu : InU l0) (h : 0 < p.length) (hp : InN l0.length p) (k : Nat) (hk : k ≤ 32) : pathS l0 (p ++ [(k : Int)]) = (pathS l0 p && edgeB l0 p k) := by
  unfold pathS
  rw [show (p ++ [(k : Int)]).length - 1 = (p.length - 1) + 1 by simp; omega, List.range_succ, List.all_append]
  congr 1
  · rw [Bool.eq_iff_iff, List.all_eq_true, List.all_eq_true]
    constructor
    · intro h2 j hj
      have := h2 j hj
      rw [List.mem_range] at hj
      rwa [rd_append p _ j (by omega), rd_append p _ (j + 1) (by omega)] at this
    · intro h2 j hj
      have := h2 j hj
      rw [List.mem_range] at hj
      rwa [rd_append p _ j (by omega), rd_append p _ (j + 1) (by omega)]
  · rw [List.all_cons, List.all_nil, Bool.and_true, rd_append p _ (p.length - 1) (by omega), show p.length - 1 + 1 = p.length by omega, rd_end, Int.toNat_natCast, edge_bit l0 p hu h hp k hk]
theorem walk_split (l0 r : List Int) (hu : InU l0) (hn : l0.length ≤ 6) (h : 0 < r.length) (hd : r.Nodup) (hr : InN l0.length r) : walkS l0 r = (pathS l0 r && closeB l0 r) := by
  have hfree : ∀ j, j < r.length → (r.take j).contains (rd r (j : Int)) = false := by
    intro j hj
    rw [Bool.eq_false_iff]
    intro hc
    rw [List.contains_iff_mem] at hc
    have he : r = r.take j ++ r.drop j := (List.take_append_drop j r).symm
    rw [he, List.nodup_append] at hd
    refine hd.2.2 _ hc (rd r (j : Int)) ?_ rfl
    rw [List.drop_eq_getElem_cons hj]
    have := rd_some hj
    rw [List.getElem?_eq_getElem hj] at this
    rw [← Option.some.inj this]; exact List.mem_cons_self ..
  have hc : closeB l0 r = bitB (rd l0 (rd r ((r.length - 1 : Nat) : Int))) (rd r 0).toNat := by
    unfold closeB
    have h0 := hr _ (rd_mem (l := r) (i := 0) h)
    have e0 : r.getD 0 0 = rd r ((0 : Nat) : Int) := rfl
    rw [e0, edge_bit l0 r hu h hr _ (by omega)]; rfl
  rw [Bool.eq_iff_iff, Bool.and_eq_true]
  unfold walkS
  rw [okFrom_iff]
  constructor
  · rintro ⟨_, h2⟩
    constructor
    · unfold pathS
      rw [List.all_eq_true]
      intro j hj
      rw [List.mem_range] at hj
      have := h2 j (by omega) (by omega)
      unfold okAt at this
      rw [Bool.and_eq_true, Nat.mod_eq_of_lt (by omega : j + 1 < r.length)] at this
      exact this.2
    · have := h2 (r.length - 1) (by omega) (by omega)
      unfold okAt at this
      rw [Bool.and_eq_true, show r.length - 1 + 1 = r.length by omega, Nat.mod_self] at this
      rw [hc]; exact this.2
  · rintro ⟨h1, h2⟩
    refine ⟨h, fun j _ hj => ?_⟩
    unfold okAt
    rw [hfree j (by omega), Bool.not_false, Bool.true_and]
    by_cases hl : j + 1 < r.length
    · rw [Nat.mod_eq_of_lt hl]
      unfold pathS at h1
      rw [List.all_eq_true] at h1
      exact h1 j (List.mem_range.2 (by omega))
    · rw [show j + 1 = r.length by omega, Nat.mod_self, show j = r.length - 1 by omega]
      rw [hc] at h2; exact h2
def qlev (l0 : List Int) (L : Nat) : List (List Int) := (rowsR l0.length L).filter (pathS l0)
theorem find_split {α : Type} (l : List α) (w p c : α → Bool) (h : ∀ r ∈ l, w r = (p r && c r)) : (l.filter p).find? c = l.find? w := by
  induction l with
  | nil => rfl
  | cons a l ih =>
    have h1 := h a (by simp)
    have h2 := ih (fun r hr => h r (by simp [hr]))
    rw [List.filter_cons, List.find?_cons, h1]
    cases hp : p a with
    | true =>
      rw [if_pos rfl, List.find?_cons, Bool.true_and, h2]
    | false => rw [if_neg (by simp), Bool.false_and, h2]
theorem flat_filter {α β : Type} (l : List α) (p : α → Bool) (g f : α → List β) (h : ∀ a ∈ l, f a = if p a then g a else []) : l.flatMap f = (l.filter p).flatMap g := by
  induction l with
  | nil => rfl
  | cons a l ih =>
    have h1 := h a (by simp)
    have h2 := ih (fun r hr => h r (by simp [hr]))
    rw [List.flatMap_cons, h1, h2, List.filter_cons]
    cases hp : p a <;> simp
theorem qlev_succ (l0 : List Int) (hu : InU l0) (hn : l0.length ≤ 6) (L : Nat) (hL : 1 ≤ L) : qlev l0 (L + 1) = (qlev l0 L).flatMap fun p => exts l0 p (List.range l0.length) := by
  unfold qlev
  simp only [rowsR]
  rw [List.filter_flatMap]
  refine flat_filter _ (pathS l0) _ _ (fun r hr => ?_)
  obtain ⟨a, b, c⟩ := rows_in _ _ r hr
  unfold nexts exts
  have hf : ∀ k ∈ (List.range l0.length).filter (fun (k : Nat) => !r.contains (k : Int)), pathS l0 (r ++ [(k : Int)]) = (pathS l0 r && edgeB l0 r k) := by
    intro k hk
    have := List.mem_range.1 (List.mem_filter.1 hk).1
    exact path_snoc l0 r hu (by omega) c k (by omega)
  rw [List.filter_map]
  have hcg : ((List.range l0.length).filter (fun (k : Nat) => !r.contains (k : Int))).filter (pathS l0 ∘ fun (k : Nat) => r ++ [(k : Int)]) = ((List.range l0.length).filter (fun (k : Nat) => !r.contains (k : Int))).filter (fun k => pathS l0 r && edgeB l0 r k) :=
    List.filter_congr (fun k hk => hf k hk)
  rw [hcg]
  cases hp : pathS l0 r with
  | true =>
    rw [if_pos rfl, List.filter_filter]
    congr 1
  | false =>
    rw [if_neg (by simp)]
    simp
theorem qlev_one (l0 : List Int) : qlev l0 1 = ones l0.length := by
  unfold qlev ones
  simp only [rowsR, List.flatMap_cons, List.flatMap_nil, List.append_nil, nexts]
  rw [List.filter_map]
  have h1 : (List.range l0.length).filter (fun (k : Nat) => !([] : List Int).contains (k : Int)) = List.range l0.length := List.filter_eq_self.2 (fun k _ => by simp)
  rw [h1]
  rw [List.filter_eq_self.2 (fun k _ => by simp [pathS])]
  rfl
theorem bfs_level (l0 : List Int) (hn : l0.length ≤ 6) (q1 : List (List Int)) : ∀ (f : Nat) (q2 : List (List Int)), (∀ p ∈ q1, okWay l0.length p = true ∧ (p.length < 6 ∨ exts l0 p (List.range l0.length) = [])) → 7 * q1.length + q2.length + 6 ≤ 10000000 →
    bfs l0 (q1.length + f) (q1 ++ q2) = match q1.find? (closeB l0) with | some p => some (p, 0) | none => bfs l0 f (q2 ++ q1.flatMap fun p => exts l0 p (List.range l0.length)) := by
  induction q1 with
  | nil => intro f q2 _ _; simp
  | cons p t ih =>
    intro f q2 h hb
    obtain ⟨h1, h2⟩ := h p (by simp)
    rw [List.length_cons, show t.length + 1 + f = (t.length + f) + 1 by omega, List.cons_append]
    rw [List.length_cons] at hb
    simp only [bfs]
    rw [if_pos ⟨h1, by rw [List.length_append]; omega⟩, List.find?_cons]
    cases hc : closeB l0 p with
    | true => rw [if_pos (show edgeB l0 p (p.getD 0 0).toNat = true from hc)]
    | false =>
      rw [if_neg (by unfold closeB at hc; rw [hc]; simp), if_pos h2]
      dsimp only
      have hel := exts_len l0 p l0.length
      rw [List.append_assoc, ih f (q2 ++ exts l0 p (List.range l0.length)) (fun r hr => h r (by simp [hr])) (by rw [List.length_append]; omega), List.flatMap_cons, List.append_assoc]
theorem exts_sub (l0 p : List Int) (ks : List Nat) : ∀ r ∈ exts l0 p ks, r ∈ nexts l0.length p ks := by
  intro r hr
  unfold exts at hr
  unfold nexts
  rw [List.mem_map] at hr ⊢
  obtain ⟨k, hk, rfl⟩ := hr
  rw [List.mem_filter, Bool.and_eq_true] at hk
  exact ⟨k, List.mem_filter.2 ⟨hk.1, hk.2.2⟩, rfl⟩
theorem qlev_ok (l0 : List Int) (hn : l0.length ≤ 6) (L : Nat) (hL : 1 ≤ L) (hL2 : L ≤ l0.length) : ∀ p ∈ qlev l0 L, okWay l0.length p = true ∧ (p.length < 6 ∨ exts l0 p (List.range l0.length) = []) := by
  intro p hp
  obtain ⟨hp1, _⟩ := List.mem_filter.1 hp
  obtain ⟨a, b, c⟩ := rows_in _ _ p hp1
  constructor
  · unfold okWay
    rw [Bool.and_eq_true, decide_eq_true_eq, List.all_eq_true]
    exact ⟨by omega, fun x hx => decide_eq_true (c x hx)⟩
  · rcases Nat.lt_or_ge L 6 with h | h
    · left; omega
    · right
      rw [List.eq_nil_iff_forall_not_mem]
      intro r hr
      have : r ∈ rowsR l0.length (L + 1) := by
        simp only [rowsR, List.mem_flatMap]
        exact ⟨p, hp1, exts_sub l0 p _ r hr⟩
      rw [rows_over _ _ (by omega)] at this
      cases this
theorem fuel_arith (d f z : Nat) (hf : (d + 1) * 46656 + 1 ≤ f) (hz : z ≤ 46656) : d * 46656 + 1 ≤ f - z := by
  have h4 : d * 46656 + 46656 + 1 ≤ f := by rw [← Nat.succ_mul]; exact hf
  clear hf
  generalize d * 46656 = m at h4 ⊢
  omega
theorem bfs_res (l0 : List Int) (hu : InU l0) (hn : l0.length ≤ 6) (d : Nat) : ∀ (L f : Nat), 1 ≤ L → L + d = l0.length + 1 → d * 46656 + 1 ≤ f → bfs l0 f (qlev l0 L) = some (resS l0 d L) := by
  induction d with
  | zero =>
    intro L f hL hd hf
    have : qlev l0 L = [] := by unfold qlev; rw [rows_over _ _ (by omega)]; rfl
    rw [this]
    obtain ⟨f, rfl⟩ : ∃ m, f = m + 1 := ⟨f - 1, by omega⟩
    rfl
  | succ d ih =>
    intro L f hL hd hf
    have hlen : (qlev l0 L).length ≤ 46656 := Nat.le_trans (List.length_filter_le _ _) (Nat.le_trans (rows_len _ hn L) (pow6_le L (by omega)))
    have hb := bfs_level l0 hn (qlev l0 L) (f - (qlev l0 L).length) [] (qlev_ok l0 hn L hL (by omega)) (by simp; omega)
    rw [show (qlev l0 L).length + (f - (qlev l0 L).length) = f by omega, List.append_nil, List.nil_append] at hb
    rw [hb]
    have hf2 : (qlev l0 L).find? (closeB l0) = (rowsR l0.length L).find? (walkS l0) := find_split _ _ _ _ (fun r hr => by
      obtain ⟨a, b, c⟩ := rows_in _ _ r hr
      exact walk_split l0 r hu hn (by omega) b c)
    rw [hf2]
    unfold resS
    cases (rowsR l0.length L).find? (walkS l0) with
    | some r => rfl
    | none =>
      dsimp only
      rw [← qlev_succ l0 hu hn L hL]
      have h3 : d * 46656 + 1 ≤ f - (qlev l0 L).length := fuel_arith d f _ hf hlen
      exact ih (L + 1) (f - (qlev l0 L).length) (by omega) (by omega) h3
theorem least_f (l0 : List Int) (hu : InU l0) : cycle_Least.f l0 = some (if mayB l0 = true then resS l0 l0.length 1 else ([], 1)) := by
  unfold cycle_Least.f
  rw [if_pos (show ∀ x ∈ l0, 0 ≤ x ∧ x < 4294967296 from hu)]
  by_cases hm : mayB l0 = true
  · rw [if_pos hm, if_pos hm, ← qlev_one]
    have hn : l0.length ≤ 6 := by unfold mayB at hm; simp only [Bool.and_eq_true, decide_eq_true_eq] at hm; exact hm.1
    exact bfs_res l0 hu hn l0.length 1 300000 (Nat.le_refl _) (by omega) (by omega)
  · rw [if_neg hm, if_neg hm]
end Go.Proofs.Ytimbamimabdmcaa.U

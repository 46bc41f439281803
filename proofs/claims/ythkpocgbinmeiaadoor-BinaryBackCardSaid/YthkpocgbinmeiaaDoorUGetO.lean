/- The number that bytes tell, plainly. -/
import Derived.Test.YthkpocgbinmeiaaDoorUNum
import Derived.Test.YthkpocgbinmeiaaDoorP5
namespace Go.Proofs.YthkpocgbinmeiaaDoor.U
set_option linter.unusedVariables false
set_option linter.unusedSimpArgs false
open Go.RowKit Go.Proofs.YthkpocgbinmeiaaDoor.P Go.Proofs.YthkpocgbinmeiaaDoorW.PrintWords Go.Proofs.YthkpocgbinmeiaaDoorW.PrintLast Go.Proofs.YthkpocgbinmeiaaDoorW.PrintMore

def getG (l : List Int) (i : Nat) : Nat → Nat → Int → Int × Int × Int
  | 0, _, _ => (0, (l.length : Int), 4)
  | d + 1, kk, n => if kk = 9 ∧ 1 < rd l ((i + kk : Nat) : Int) then (0, ((i + kk : Nat) : Int), 3) else if 0 < kk ∧ rd l ((i + kk : Nat) : Int) = 0 then (0, ((i + kk : Nat) : Int), 2) else if rd l ((i + kk : Nat) : Int) < 128 then (n + (rd l ((i + kk : Nat) : Int) % 128) * 2 ^ (7 * kk), ((i + kk : Nat) : Int) + 1, 0) else getG l i d (kk + 1) (n + (rd l ((i + kk : Nat) : Int) % 128) * 2 ^ (7 * kk))
theorem getG_succ (l : List Int) (i d kk : Nat) (n : Int) : getG l i (d + 1) kk n = if kk = 9 ∧ 1 < rd l ((i + kk : Nat) : Int) then (0, ((i + kk : Nat) : Int), 3) else if 0 < kk ∧ rd l ((i + kk : Nat) : Int) = 0 then (0, ((i + kk : Nat) : Int), 2) else if rd l ((i + kk : Nat) : Int) < 128 then (n + (rd l ((i + kk : Nat) : Int) % 128) * 2 ^ (7 * kk), ((i + kk : Nat) : Int) + 1, 0) else getG l i d (kk + 1) (n + (rd l ((i + kk : Nat) : Int) % 128) * 2 ^ (7 * kk)) := rfl
def getS (l : List Int) (a : Int) : Int × Int × Int := if a < 0 ∨ l.length < a then (0, 0, 1) else getG l a.toNat (l.length - a.toNat) 0 0
theorem one_moreG (n c : Int) (k : Nat) (hk : k ≤ 9) (hn : 0 ≤ n) (hn2 : n < 2 ^ (7 * k)) (h0 : 0 ≤ c) (h1 : c ≤ 255) (h9 : k = 9 → c ≤ 1) :
    Go.bits .or .u64 n (shl .u64 (IntKind.u64.wrap (Go.bits .and .u8 c 127)) (wrap64 (7 * (k : Int)))) = n + (c % 128) * 2 ^ (7 * k) ∧
    IntKind.u64.wrap (n + IntKind.u64.wrap (IntKind.u64.wrap (Int.tmod c 128) * 2 ^ (7 * k))) = n + (c % 128) * 2 ^ (7 * k) ∧ (k ≤ 8 → n + (c % 128) * 2 ^ (7 * k) < 2 ^ (7 * (k + 1))) := by
  rw [and127 c h0 h1, Int.tmod_eq_emod_of_nonneg h0, wu64 (by omega) (by omega), w64 (by omega) (by omega)]
  have hs : shl .u64 (c % 128) (7 * (k : Int)) = (c % 128) * 2 ^ (7 * k) := by
    unfold shl
    have : min (7 * (k : Int)).toNat IntKind.u64.bits = 7 * k := by simp [IntKind.bits]; omega
    rw [this, wu64]
    · have : (0 : Int) ≤ 2 ^ (7 * k) := Int.pow_nonneg (by decide)
      exact Int.mul_nonneg (by omega) this
    · obtain rfl | rfl | rfl | rfl | rfl | rfl | rfl | rfl | rfl | rfl : k = 0 ∨ k = 1 ∨ k = 2 ∨ k = 3 ∨ k = 4 ∨ k = 5 ∨ k = 6 ∨ k = 7 ∨ k = 8 ∨ k = 9 := by omega
      all_goals simp only [Nat.reduceMul, Int.reducePow] <;> first | omega | (have := h9 rfl; omega)
  rw [hs]
  have hm : (c % 128) * 2 ^ (7 * k) % 2 ^ (7 * k) = 0 := Int.mul_emod_left _ _
  obtain rfl | rfl | rfl | rfl | rfl | rfl | rfl | rfl | rfl | rfl : k = 0 ∨ k = 1 ∨ k = 2 ∨ k = 3 ∨ k = 4 ∨ k = 5 ∨ k = 6 ∨ k = 7 ∨ k = 8 ∨ k = 9 := by omega
  all_goals
    rw [or_join _ _ _ (by simp only [Nat.reduceMul, Int.reducePow]; omega) hm (by simp only [Nat.reduceMul, Int.reducePow] <;> first | omega | (have := h9 rfl; omega)) hn hn2 (by simp only [Nat.reduceMul, Int.reducePow] at hn2 ⊢; omega)]
    simp only [Nat.reduceMul, Nat.reduceAdd, Int.reducePow] at hn2 ⊢
    refine ⟨trivial, ?_, by omega⟩
    first
    | rw [wu64 (x := c % 128 * _) (by omega) (by omega), wu64 (by omega) (by omega)]
    | (have := h9 rfl; rw [wu64 (x := c % 128 * _) (by omega) (by omega), wu64 (by omega) (by omega)])

theorem rd_memG {l : List Int} {i : Int} (h0 : 0 ≤ i) (h1 : i < l.length) : rd l i ∈ l := by
  unfold rd
  rw [List.getD_eq_getElem?_getD, List.getElem?_eq_getElem (by omega)]
  exact List.getElem_mem _
theorem rd_dropG (l : List Int) (i k : Nat) : rd (l.drop i) (k : Int) = rd l ((i : Int) + k) := by
  unfold rd
  rw [List.getD_eq_getElem?_getD, List.getD_eq_getElem?_getD, List.getElem?_drop]
  congr 2

theorem get_loopG (l : List Int) (hl : ∀ x ∈ l, 0 ≤ x ∧ x ≤ 255) (hlen : l.length ≤ 1000000) (i : Nat) (hi : i ≤ l.length) (d : Nat) : ∀ (kk : Nat) (n : Int), kk ≤ 9 → i + kk + d = l.length → 0 ≤ n → n < 2 ^ (7 * kk) →
    Ev (fun k => varint_Get.l0 k l i n (l.drop i) ((l.drop i).length : Int) kk) (getG l i d kk n) ∧ True := by
  induction d with
  | zero =>
    intro kk n hk hd hn hn2
    rw [show getG l i 0 kk n = (0, (l.length : Int), 4) from rfl]
    refine ⟨⟨1, fun k hk1 => ?_⟩, trivial⟩
    · obtain ⟨k, rfl⟩ : ∃ m, k = m + 1 := ⟨k - 1, by omega⟩
      simp only [varint_Get.l0]
      rw [if_neg (by simp; omega)]
  | succ d ih =>
    intro kk n hk hd hn hn2
    have hmem := hl _ (rd_memG (l := l) (i := ((i + kk : Nat) : Int)) (by omega) (by omega))
    have hrd : rd (l.drop i) (kk : Int) = rd l ((i + kk : Nat) : Int) := by rw [rd_dropG]; congr 1
    obtain ⟨c, hc⟩ : ∃ c, c = rd l ((i + kk : Nat) : Int) := ⟨_, rfl⟩
    rw [← hc] at hmem hrd
    -- how a round of ours goes
    have A : ∀ k, varint_Get.l0 (k + 1) l i n (l.drop i) ((l.drop i).length : Int) kk = varint_Get.j2 k l i n kk c (l.drop i) ((l.drop i).length : Int) kk (decide (kk = 9 ∧ 1 < c)) := by
      intro k
      simp only [varint_Get.l0]
      rw [if_pos (by simp; omega), if_pos (by omega), if_pos (by simp; omega), hrd]
      by_cases h9 : kk = 9
      · rw [if_pos (by omega)]; simp [h9]
      · rw [if_neg (by omega)]; simp [h9]
    by_cases h9 : kk = 9 ∧ 1 < c
    · rw [getG_succ, ← hc, if_pos h9]
      refine ⟨⟨2, fun k hk1 => ?_⟩, trivial⟩
      · obtain ⟨k, rfl⟩ : ∃ m, k = m + 1 + 1 := ⟨k - 2, by omega⟩
        dsimp only; rw [A]
        simp only [varint_Get.j2]
        rw [if_pos (by simpa using h9), w64 (by omega) (by omega)]
        simp
    · have B : ∀ k, varint_Get.l0 (k + 1 + 1) l i n (l.drop i) ((l.drop i).length : Int) kk = varint_Get.j3 k l i n kk c (l.drop i) ((l.drop i).length : Int) kk (decide (0 < kk ∧ c = 0)) := by
        intro k
        rw [A]
        simp only [varint_Get.j2]
        rw [if_neg (by simpa using h9)]
        by_cases hz : 0 < kk
        · rw [if_pos (by omega)]; congr 1; simp only [hz, true_and]; rfl
        · rw [if_neg (by omega)]; simp [hz]
      by_cases hz : 0 < kk ∧ c = 0
      · rw [getG_succ, ← hc, if_neg h9, if_pos hz]
        refine ⟨⟨3, fun k hk1 => ?_⟩, trivial⟩
        · obtain ⟨k, rfl⟩ : ∃ m, k = m + 1 + 1 + 1 := ⟨k - 3, by omega⟩
          dsimp only; rw [B]
          simp only [varint_Get.j3]
          rw [if_pos (by simpa using hz), w64 (by omega) (by omega)]
          simp
      · obtain ⟨s1, s2, s3⟩ := one_moreG n c kk hk hn hn2 hmem.1 hmem.2 (fun h => by omega)
        have hp : (0 : Int) ≤ 2 ^ (7 * kk) := Int.pow_nonneg (by decide)
        have hm : 0 ≤ (c % 128) * 2 ^ (7 * kk) := Int.mul_nonneg (by omega) hp
        by_cases hlast : c < 128
        · rw [getG_succ, ← hc, if_neg h9, if_neg hz, if_pos hlast]
          refine ⟨⟨3, fun k hk1 => ?_⟩, trivial⟩
          · obtain ⟨k, rfl⟩ : ∃ m, k = m + 1 + 1 + 1 := ⟨k - 3, by omega⟩
            dsimp only; rw [B]
            simp only [varint_Get.j3]
            rw [if_neg (by simpa using hz), if_pos (by rw [w64 (by omega) (by omega)]; omega), if_pos hlast, s1, w64 (x := (i : Int) + kk) (by omega) (by omega), w64 (by omega) (by omega)]
            simp
        · have hk8 : kk ≤ 8 := by
            rcases Nat.lt_or_ge kk 9 with h | h
            · omega
            · exact absurd ⟨by omega, by omega⟩ h9
          have hstep : (2 : Int) ^ (7 * kk) * 128 = 2 ^ (7 * (kk + 1)) := by rw [Nat.mul_add, Int.pow_add]; rfl
          have hlt : (2 : Int) ^ (7 * kk) * 128 < 18446744073709551616 := by
            obtain rfl | rfl | rfl | rfl | rfl | rfl | rfl | rfl | rfl : kk = 0 ∨ kk = 1 ∨ kk = 2 ∨ kk = 3 ∨ kk = 4 ∨ kk = 5 ∨ kk = 6 ∨ kk = 7 ∨ kk = 8 := by omega
            all_goals decide
          rw [getG_succ, ← hc, if_neg h9, if_neg hz, if_neg hlast]
          obtain ⟨⟨K, e1⟩, _⟩ := ih (kk + 1) (n + (c % 128) * 2 ^ (7 * kk)) (by omega) (by omega) (by omega) (s3 hk8)
          refine ⟨⟨K + 3, fun k hk1 => ?_⟩, trivial⟩
          · obtain ⟨k, rfl⟩ : ∃ m, k = m + 1 + 1 + 1 := ⟨k - 3, by omega⟩
            dsimp only; rw [B]
            simp only [varint_Get.j3]
            rw [if_neg (by simpa using hz), if_pos (by rw [w64 (by omega) (by omega)]; omega), if_neg hlast, s1, w64 (x := (kk : Int) + 1) (by omega) (by omega)]
            exact e1 k (by omega)
/-- Ours and the reference's answer are one. -/
theorem get_sameG (l : List Int) (hl : ∀ x ∈ l, 0 ≤ x ∧ x ≤ 255) (hlen : l.length ≤ 1000000) (a : Int) : Ev (fun k => varint_Get.f k l a) (getS l a) ∧ True := by
  by_cases hbad : a < 0 ∨ l.length < a
  · unfold getS
    rw [if_pos hbad]
    refine ⟨⟨1, fun k hk1 => ?_⟩, trivial⟩
    all_goals
      obtain ⟨k, rfl⟩ : ∃ m, k = m + 1 := ⟨k - 1, by omega⟩
      simp only [varint_Get.f]
      by_cases h : a < 0
      · rw [if_pos h]; simp [varint_Get.j0]
      · rw [if_neg h]
        have : decide (a > (l.length : Int)) = true := by simp; omega
        rw [this]; simp [varint_Get.j0]
  · obtain ⟨i, rfl⟩ := Int.eq_ofNat_of_zero_le (show 0 ≤ a by omega)
    unfold getS
    rw [if_neg hbad, Int.toNat_natCast]
    obtain ⟨⟨K, e1⟩, _⟩ := get_loopG l hl hlen i (by omega) (l.length - i) 0 0 (by omega) (by omega) (by omega) (by simp)
    have hd : decide ((i : Int) > (l.length : Int)) = false := by simp; omega
    refine ⟨⟨K + 1, fun k hk1 => ?_⟩, trivial⟩
    · obtain ⟨k, rfl⟩ : ∃ m, k = m + 1 := ⟨k - 1, by omega⟩
      simp only [varint_Get.f, varint_Get.j0]
      rw [if_neg (by omega), hd, if_neg (by simp), if_pos (by omega), if_pos (by omega)]
      exact e1 k (by omega)
/-- A number that is told is small, and ends behind where it began. -/
theorem getG_ok (l : List Int) (hl : ∀ x ∈ l, 0 ≤ x ∧ x ≤ 255) (i : Nat) (d : Nat) : ∀ (kk : Nat) (n : Int), kk ≤ 9 → i + kk + d = l.length → 0 ≤ n → n < 2 ^ (7 * kk) → (getG l i d kk n).2.2 = 0 → 0 ≤ (getG l i d kk n).1 ∧ (getG l i d kk n).1 < 18446744073709551616 ∧ ((i + kk : Nat) : Int) < (getG l i d kk n).2.1 ∧ (getG l i d kk n).2.1 ≤ l.length := by
  induction d with
  | zero => intro kk n _ _ _ _ h; exact absurd h (by show ¬ ((4 : Int) = 0); decide)
  | succ d ih =>
    intro kk n hk hd hn hn2
    have hmem := hl _ (rd_memG (l := l) (i := ((i + kk : Nat) : Int)) (by omega) (by omega))
    obtain ⟨c, hc⟩ : ∃ c, c = rd l ((i + kk : Nat) : Int) := ⟨_, rfl⟩
    rw [← hc] at hmem
    rw [getG_succ, ← hc]
    by_cases h9 : kk = 9 ∧ 1 < c
    · rw [if_pos h9]; intro h; exact absurd h (by show ¬ ((3 : Int) = 0); decide)
    · rw [if_neg h9]
      by_cases hz : 0 < kk ∧ c = 0
      · rw [if_pos hz]; intro h; exact absurd h (by show ¬ ((2 : Int) = 0); decide)
      · rw [if_neg hz]
        obtain ⟨s1, s2, s3⟩ := one_moreG n c kk hk hn hn2 hmem.1 hmem.2 (fun h => by omega)
        have hp : (0 : Int) ≤ 2 ^ (7 * kk) := Int.pow_nonneg (by decide)
        have hm : 0 ≤ (c % 128) * 2 ^ (7 * kk) := Int.mul_nonneg (by omega) hp
        by_cases hlast : c < 128
        · rw [if_pos hlast]
          intro _
          refine ⟨by dsimp only; omega, ?_, by dsimp only; omega, by dsimp only; omega⟩
          dsimp only
          rcases Nat.lt_or_ge kk 9 with h | h
          · have h3 := s3 (by omega)
            have hle : (2 : Int) ^ (7 * (kk + 1)) ≤ 18446744073709551616 := by
              obtain rfl | rfl | rfl | rfl | rfl | rfl | rfl | rfl | rfl : kk = 0 ∨ kk = 1 ∨ kk = 2 ∨ kk = 3 ∨ kk = 4 ∨ kk = 5 ∨ kk = 6 ∨ kk = 7 ∨ kk = 8 := by omega
              all_goals decide
            omega
          · obtain rfl : kk = 9 := by omega
            have : c ≤ 1 := by omega
            simp only [Nat.reduceMul, Int.reducePow] at hn2 ⊢
            omega
        · rw [if_neg hlast]
          have hk8 : kk ≤ 8 := by
            rcases Nat.lt_or_ge kk 9 with h | h
            · omega
            · exact absurd ⟨by omega, by omega⟩ h9
          intro h
          obtain ⟨a1, a2, a3, a4⟩ := ih (kk + 1) _ (by omega) (by omega) (by omega) (s3 hk8) h
          exact ⟨a1, a2, by omega, a4⟩
theorem getS_ok (l : List Int) (hl : ∀ x ∈ l, 0 ≤ x ∧ x ≤ 255) (a : Int) (h : (getS l a).2.2 = 0) : 0 ≤ a ∧ 0 ≤ (getS l a).1 ∧ (getS l a).1 < 18446744073709551616 ∧ a < (getS l a).2.1 ∧ (getS l a).2.1 ≤ l.length := by
  unfold getS at h ⊢
  by_cases hbad : a < 0 ∨ l.length < a
  · rw [if_pos hbad] at h; exact absurd h (by show ¬ ((1 : Int) = 0); decide)
  · rw [if_neg hbad] at h ⊢
    obtain ⟨a1, a2, a3, a4⟩ := getG_ok l hl a.toNat _ 0 0 (by omega) (by omega) (by omega) (by decide) h
    exact ⟨by omega, a1, a2, by omega, a4⟩
end Go.Proofs.YthkpocgbinmeiaaDoor.U

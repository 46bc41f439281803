/- Plain lemmas on numbers as bytes: what one byte adds; ours and the reference's Get answer alike. -/
import Derived.Test.YthkpocgbinmeiaaUNum
import Derived.Test.YthkpocgbinmeiaaP1
import Derived.Test.YthkpocgbinmeiaaP2
namespace Go.Proofs.Ythkpocgbinmeiaa.U
set_option linter.unusedVariables false
set_option linter.unusedSimpArgs false
open Go.RowKit Go.Proofs.Ythkpocgbinmeiaa.P Go.Proofs.YthkpocgbinmeiaaW.PrintWords Go.Proofs.YthkpocgbinmeiaaW.PrintLast Go.Proofs.YthkpocgbinmeiaaW.PrintMore

/-- What one byte adds, in both forms. -/
theorem one_more (n c : Int) (k : Nat) (hk : k ≤ 9) (hn : 0 ≤ n) (hn2 : n < 2 ^ (7 * k)) (h0 : 0 ≤ c) (h1 : c ≤ 255) (h9 : k = 9 → c ≤ 1) :
    Go.bits .or .u64 n (shl .u64 (IntKind.u64.wrap (Go.bits .and .u8 c 127)) (wrap64 (7 * (k : Int)))) = n + (c % 128) * 2 ^ (7 * k) ∧
    IntKind.u64.wrap (n + IntKind.u64.wrap (IntKind.u64.wrap (Int.tmod c 128) * 2 ^ (7 * k))) = n + (c % 128) * 2 ^ (7 * k) ∧ (k ≤ 8 → n + (c % 128) * 2 ^ (7 * k) < 2 ^ (7 * (k + 1))) := by
  rw [and127 c h0 h1, Int.tmod_eq_emod_of_nonneg h0, wu64 (by omega) (by omega), w64 (by omega) (by omega)]
  have hs : shl .u64 (c % 128) (7 * (k : Int)) = (c % 128) * 2 ^ (7 * k) := by
    unfold shl
    have : min (7 * (k : Int)).toNat IntKind.u64.bits = 7 * k := by simp [IntKind.bits]; omega
    rw [this, wu64]
    · have : (0 : Int) ≤ 2 ^ (7 * k) := Int.pow_nonneg (by decide)
      exact Int.mul_nonneg (by omega) this
    · obtain rfl | rfl | rfl | rfl | rfl | rfl | rfl | rfl | rfl | rfl : k = 0 ∨ k = 1 ∨ k = 2 ∨ k = 3 ∨ k = 4 ∨ k = 5 ∨ k = 6 ∨ k = 7 ∨ k = 8 ∨ k = 9 := by omega
      all_goals simp only [Nat.reduceMul, Int.reducePow] <;> first | omega | (have := h9 rfl; omega)
  rw [hs]
  have hm : (c % 128) * 2 ^ (7 * k) % 2 ^ (7 * k) = 0 := Int.mul_emod_left _ _
  obtain rfl | rfl | rfl | rfl | rfl | rfl | rfl | rfl | rfl | rfl : k = 0 ∨ k = 1 ∨ k = 2 ∨ k = 3 ∨ k = 4 ∨ k = 5 ∨ k = 6 ∨ k = 7 ∨ k = 8 ∨ k = 9 := by omega
  all_goals
    rw [or_join _ _ _ (by simp only [Nat.reduceMul, Int.reducePow]; omega) hm (by simp only [Nat.reduceMul, Int.reducePow] <;> first | omega | (have := h9 rfl; omega)) hn hn2 (by simp only [Nat.reduceMul, Int.reducePow] at hn2 ⊢; omega)]
    simp only [Nat.reduceMul, Nat.reduceAdd, Int.reducePow] at hn2 ⊢
    refine ⟨trivial, ?_, by omega⟩
    first
    | rw [wu64 (x := c % 128 * _) (by omega) (by omega), wu64 (by omega) (by omega)]
    | (have := h9 rfl; rw [wu64 (x := c % 128 * _) (by omega) (by omega), wu64 (by omega) (by omega)])

theorem rd_mem {l : List Int} {i : Int} (h0 : 0 ≤ i) (h1 : i < l.length) : rd l i ∈ l := by
  unfold rd
  rw [List.getD_eq_getElem?_getD, List.getElem?_eq_getElem (by omega)]
  exact List.getElem_mem _
theorem rd_drop (l : List Int) (i k : Nat) : rd (l.drop i) (k : Int) = rd l ((i : Int) + k) := by
  unfold rd
  rw [List.getD_eq_getElem?_getD, List.getD_eq_getElem?_getD, List.getElem?_drop]
  congr 2

theorem get_loop (l : List Int) (hl : ∀ x ∈ l, 0 ≤ x ∧ x ≤ 255) (hlen : l.length ≤ 60) (i : Nat) (hi : i ≤ l.length) (d : Nat) : ∀ (kk : Nat) (n : Int), kk ≤ 9 → i + kk + d = l.length → 0 ≤ n → n < 2 ^ (7 * kk) →
    ∃ r, Ev (fun k => varint_Get.l0 k l i n (l.drop i) ((l.drop i).length : Int) kk) r ∧ Ev (fun k => recantref03_Get.l0 k l i n (2 ^ (7 * kk)) (i + kk : Nat)) r := by
  induction d with
  | zero =>
    intro kk n hk hd hn hn2
    refine ⟨(0, (l.length : Int), 4), ⟨1, fun k hk1 => ?_⟩, ⟨1, fun k hk1 => ?_⟩⟩
    · obtain ⟨k, rfl⟩ : ∃ m, k = m + 1 := ⟨k - 1, by omega⟩
      simp only [varint_Get.l0]
      rw [if_neg (by simp; omega)]
    · obtain ⟨k, rfl⟩ : ∃ m, k = m + 1 := ⟨k - 1, by omega⟩
      simp only [recantref03_Get.l0]
      rw [if_neg (by omega)]
  | succ d ih =>
    intro kk n hk hd hn hn2
    have hmem := hl _ (rd_mem (l := l) (i := ((i + kk : Nat) : Int)) (by omega) (by omega))
    have hrd : rd (l.drop i) (kk : Int) = rd l ((i + kk : Nat) : Int) := by rw [rd_drop]; congr 1
    obtain ⟨c, hc⟩ : ∃ c, c = rd l ((i + kk : Nat) : Int) := ⟨_, rfl⟩
    rw [← hc] at hmem hrd
    -- how a round of ours goes
    have A : ∀ k, varint_Get.l0 (k + 1) l i n (l.drop i) ((l.drop i).length : Int) kk = varint_Get.j2 k l i n kk c (l.drop i) ((l.drop i).length : Int) kk (decide (kk = 9 ∧ 1 < c)) := by
      intro k
      simp only [varint_Get.l0]
      rw [if_pos (by simp; omega), if_pos (by omega), if_pos (by simp; omega), hrd]
      by_cases h9 : kk = 9
      · rw [if_pos (by omega)]; simp [h9]
      · rw [if_neg (by omega)]; simp [h9]
    have A' : ∀ k, recantref03_Get.l0 (k + 1) l i n (2 ^ (7 * kk)) ((i + kk : Nat) : Int) = recantref03_Get.j2 k l i n (2 ^ (7 * kk)) ((i + kk : Nat) : Int) (decide (kk = 9 ∧ 1 < c)) := by
      intro k
      simp only [recantref03_Get.l0]
      rw [if_pos (by omega), w64 (by omega) (by omega)]
      by_cases h9 : kk = 9
      · rw [if_pos (by omega), if_pos (by omega), ← hc]; simp [h9]
      · rw [if_neg (by omega)]; simp [h9]
    by_cases h9 : kk = 9 ∧ 1 < c
    · refine ⟨(0, ((i + kk : Nat) : Int), 3), ⟨2, fun k hk1 => ?_⟩, ⟨2, fun k hk1 => ?_⟩⟩
      · obtain ⟨k, rfl⟩ : ∃ m, k = m + 1 + 1 := ⟨k - 2, by omega⟩
        dsimp only; rw [A]
        simp only [varint_Get.j2]
        rw [if_pos (by simpa using h9), w64 (by omega) (by omega)]
        simp
      · obtain ⟨k, rfl⟩ : ∃ m, k = m + 1 + 1 := ⟨k - 2, by omega⟩
        dsimp only; rw [A']
        simp only [recantref03_Get.j2]
        rw [if_pos (by simpa using h9)]
    · have B : ∀ k, varint_Get.l0 (k + 1 + 1) l i n (l.drop i) ((l.drop i).length : Int) kk = varint_Get.j3 k l i n kk c (l.drop i) ((l.drop i).length : Int) kk (decide (0 < kk ∧ c = 0)) := by
        intro k
        rw [A]
        simp only [varint_Get.j2]
        rw [if_neg (by simpa using h9)]
        by_cases hz : 0 < kk
        · rw [if_pos (by omega)]; congr 1; simp only [hz, true_and]; rfl
        · rw [if_neg (by omega)]; simp [hz]
      have B' : ∀ k, recantref03_Get.l0 (k + 1 + 1) l i n (2 ^ (7 * kk)) ((i + kk : Nat) : Int) = recantref03_Get.j3 k l i n (2 ^ (7 * kk)) ((i + kk : Nat) : Int) (decide (0 < kk ∧ c = 0)) := by
        intro k
        rw [A']
        simp only [recantref03_Get.j2]
        rw [if_neg (by simpa using h9)]
        by_cases hz : 0 < kk
        · rw [if_pos (by omega), if_pos (by omega), if_pos (by omega), ← hc]; congr 1; simp only [hz, true_and]; rfl
        · rw [if_neg (by omega)]; simp [hz]
      by_cases hz : 0 < kk ∧ c = 0
      · refine ⟨(0, ((i + kk : Nat) : Int), 2), ⟨3, fun k hk1 => ?_⟩, ⟨3, fun k hk1 => ?_⟩⟩
        · obtain ⟨k, rfl⟩ : ∃ m, k = m + 1 + 1 + 1 := ⟨k - 3, by omega⟩
          dsimp only; rw [B]
          simp only [varint_Get.j3]
          rw [if_pos (by simpa using hz), w64 (by omega) (by omega)]
          simp
        · obtain ⟨k, rfl⟩ : ∃ m, k = m + 1 + 1 + 1 := ⟨k - 3, by omega⟩
          dsimp only; rw [B']
          simp only [recantref03_Get.j3]
          rw [if_pos (by simpa using hz)]
      · obtain ⟨s1, s2, s3⟩ := one_more n c kk hk hn hn2 hmem.1 hmem.2 (fun h => by omega)
        have hp : (0 : Int) ≤ 2 ^ (7 * kk) := Int.pow_nonneg (by decide)
        have hm : 0 ≤ (c % 128) * 2 ^ (7 * kk) := Int.mul_nonneg (by omega) hp
        by_cases hlast : c < 128
        · refine ⟨(n + (c % 128) * 2 ^ (7 * kk), ((i + kk : Nat) : Int) + 1, 0), ⟨3, fun k hk1 => ?_⟩, ⟨3, fun k hk1 => ?_⟩⟩
          · obtain ⟨k, rfl⟩ : ∃ m, k = m + 1 + 1 + 1 := ⟨k - 3, by omega⟩
            dsimp only; rw [B]
            simp only [varint_Get.j3]
            rw [if_neg (by simpa using hz), if_pos (by rw [w64 (by omega) (by omega)]; omega), if_pos hlast, s1, w64 (x := (i : Int) + kk) (by omega) (by omega), w64 (by omega) (by omega)]
            simp
          · obtain ⟨k, rfl⟩ : ∃ m, k = m + 1 + 1 + 1 := ⟨k - 3, by omega⟩
            dsimp only; rw [B']
            simp only [recantref03_Get.j3]
            rw [if_neg (by simpa using hz), if_pos (by omega), if_pos (by omega), ← hc, if_pos hlast, s2, w64 (by omega) (by omega)]
        · have hk8 : kk ≤ 8 := by
            rcases Nat.lt_or_ge kk 9 with h | h
            · omega
            · exact absurd ⟨by omega, by omega⟩ h9
          have hstep : (2 : Int) ^ (7 * kk) * 128 = 2 ^ (7 * (kk + 1)) := by rw [Nat.mul_add, Int.pow_add]; rfl
          have hlt : (2 : Int) ^ (7 * kk) * 128 < 18446744073709551616 := by
            obtain rfl | rfl | rfl | rfl | rfl | rfl | rfl | rfl | rfl : kk = 0 ∨ kk = 1 ∨ kk = 2 ∨ kk = 3 ∨ kk = 4 ∨ kk = 5 ∨ kk = 6 ∨ kk = 7 ∨ kk = 8 := by omega
            all_goals decide
          obtain ⟨r, ⟨K, e1⟩, ⟨K', e2⟩⟩ := ih (kk + 1) (n + (c % 128) * 2 ^ (7 * kk)) (by omega) (by omega) (by omega) (s3 hk8)
          refine ⟨r, ⟨K + 3, fun k hk1 => ?_⟩, ⟨K' + 3, fun k hk1 => ?_⟩⟩
          · obtain ⟨k, rfl⟩ : ∃ m, k = m + 1 + 1 + 1 := ⟨k - 3, by omega⟩
            dsimp only; rw [B]
            simp only [varint_Get.j3]
            rw [if_neg (by simpa using hz), if_pos (by rw [w64 (by omega) (by omega)]; omega), if_neg hlast, s1, w64 (x := (kk : Int) + 1) (by omega) (by omega)]
            exact e1 k (by omega)
          · obtain ⟨k, rfl⟩ : ∃ m, k = m + 1 + 1 + 1 := ⟨k - 3, by omega⟩
            dsimp only; rw [B']
            simp only [recantref03_Get.j3]
            rw [if_neg (by simpa using hz), if_pos (by omega), if_pos (by omega), ← hc, if_neg hlast, s2, w64 (by omega) (by omega), wu64 (x := 2 ^ (7 * kk) * 128) (by omega) hlt, hstep]
            exact e2 k (by omega)

/-- Ours and the reference's answer are one. -/
theorem get_same (l : List Int) (hl : ∀ x ∈ l, 0 ≤ x ∧ x ≤ 255) (hlen : l.length ≤ 60) (a : Int) : ∃ r, Ev (fun k => varint_Get.f k l a) r ∧ Ev (fun k => recantref03_Get.f k l a) r := by
  by_cases hbad : a < 0 ∨ l.length < a
  · refine ⟨(0, 0, 1), ⟨1, fun k hk1 => ?_⟩, ⟨1, fun k hk1 => ?_⟩⟩
    all_goals
      obtain ⟨k, rfl⟩ : ∃ m, k = m + 1 := ⟨k - 1, by omega⟩
      simp only [varint_Get.f, recantref03_Get.f]
      by_cases h : a < 0
      · rw [if_pos h]; simp [varint_Get.j0, recantref03_Get.j0]
      · rw [if_neg h]
        have : decide (a > (l.length : Int)) = true := by simp; omega
        rw [this]; simp [varint_Get.j0, recantref03_Get.j0]
  · obtain ⟨i, rfl⟩ := Int.eq_ofNat_of_zero_le (show 0 ≤ a by omega)
    obtain ⟨r, ⟨K, e1⟩, ⟨K', e2⟩⟩ := get_loop l hl hlen i (by omega) (l.length - i) 0 0 (by omega) (by omega) (by omega) (by simp)
    have hd : decide ((i : Int) > (l.length : Int)) = false := by simp; omega
    refine ⟨r, ⟨K + 1, fun k hk1 => ?_⟩, ⟨K' + 1, fun k hk1 => ?_⟩⟩
    · obtain ⟨k, rfl⟩ : ∃ m, k = m + 1 := ⟨k - 1, by omega⟩
      simp only [varint_Get.f, varint_Get.j0]
      rw [if_neg (by omega), hd, if_neg (by simp), if_pos (by omega), if_pos (by omega)]
      exact e1 k (by omega)
    · obtain ⟨k, rfl⟩ : ∃ m, k = m + 1 := ⟨k - 1, by omega⟩
      simp only [recantref03_Get.f, recantref03_Get.j0]
      rw [if_neg (by omega), hd, if_neg (by simp)]
      exact e2 k (by omega)

theorem alive_yes : Ev (fun k => recantlaw03_alive.f k) true := Ev.of recantlaw03_alive.mono (k := 12) (by decide +kernel)


end Go.Proofs.Ythkpocgbinmeiaa.U

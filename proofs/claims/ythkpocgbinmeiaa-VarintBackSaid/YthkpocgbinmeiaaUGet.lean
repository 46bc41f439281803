/- Plain lemmas on Get: a round; what is put is got; what is got, put, is those bytes. -/
import Derived.Test.YthkpocgbinmeiaaUNum
import Derived.Test.YthkpocgbinmeiaaUVarint
import Derived.Test.YthkpocgbinmeiaaUPut
import Derived.Test.YthkpocgbinmeiaaGPut
import Derived.Test.YthkpocgbinmeiaaP1
namespace Go.Proofs.Ythkpocgbinmeiaa.U
set_option linter.unusedVariables false
set_option linter.unusedSimpArgs false
open Go.RowKit Go.Proofs.Ythkpocgbinmeiaa.P Go.Proofs.YthkpocgbinmeiaaW.PrintWords Go.Proofs.YthkpocgbinmeiaaW.PrintLast Go.Proofs.YthkpocgbinmeiaaW.PrintMore

theorem get_step (l : List Int) (hlen : l.length ≤ 1000000) (i kk : Nat) (n c : Int) (hlt : i + kk < l.length) (hrd : rd l ((i + kk : Nat) : Int) = c) (hc : 0 ≤ c ∧ c ≤ 255) (hk : kk ≤ 9) (hn : 0 ≤ n) (hn2 : n < 2 ^ (7 * kk)) (k : Nat) :
    varint_Get.l0 (k + 1 + 1 + 1) l i n (l.drop i) ((l.drop i).length : Int) kk = if kk = 9 ∧ 1 < c then some (0, ((i + kk : Nat) : Int), 3) else if 0 < kk ∧ c = 0 then some (0, ((i + kk : Nat) : Int), 2) else if c < 128 then some (n + (c % 128) * 2 ^ (7 * kk), ((i + kk + 1 : Nat) : Int), 0) else varint_Get.l0 k l i (n + (c % 128) * 2 ^ (7 * kk)) (l.drop i) ((l.drop i).length : Int) ((kk + 1 : Nat) : Int) := by
  have hrd' : rd (l.drop i) (kk : Int) = c := by rw [rd_drop, ← hrd]; congr 1
  have A : ∀ k, varint_Get.l0 (k + 1) l i n (l.drop i) ((l.drop i).length : Int) kk = varint_Get.j2 k l i n kk c (l.drop i) ((l.drop i).length : Int) kk (decide (kk = 9 ∧ 1 < c)) := by
    intro k
    simp only [varint_Get.l0]
    rw [if_pos (by simp; omega), if_pos (by omega), if_pos (by simp; omega), hrd']
    by_cases h9 : kk = 9
    · rw [if_pos (by omega)]; simp [h9]
    · rw [if_neg (by omega)]; simp [h9]
  rw [A]
  by_cases h9 : kk = 9 ∧ 1 < c
  · rw [if_pos h9]
    simp only [varint_Get.j2]
    rw [if_pos (by simpa using h9), w64 (by omega) (by omega)]
    simp
  · rw [if_neg h9]
    have B : varint_Get.j2 (k + 1 + 1) l i n kk c (l.drop i) ((l.drop i).length : Int) kk (decide (kk = 9 ∧ 1 < c)) = varint_Get.j3 (k + 1) l i n kk c (l.drop i) ((l.drop i).length : Int) kk (decide (0 < kk ∧ c = 0)) := by
      simp only [varint_Get.j2]
      rw [if_neg (by simpa using h9)]
      by_cases hz : 0 < kk
      · rw [if_pos (by omega)]; congr 1; simp only [hz, true_and]; rfl
      · rw [if_neg (by omega)]; simp [hz]
    rw [B]
    by_cases hz : 0 < kk ∧ c = 0
    · rw [if_pos hz]
      simp only [varint_Get.j3]
      rw [if_pos (by simpa using hz), w64 (by omega) (by omega)]
      simp
    · rw [if_neg hz]
      obtain ⟨s1, s2, s3⟩ := one_more n c kk hk hn hn2 hc.1 hc.2 (fun h => by omega)
      simp only [varint_Get.j3]
      rw [if_neg (by simpa using hz), if_pos (by rw [w64 (by omega) (by omega)]; omega), s1]
      by_cases hlast : c < 128
      · rw [if_pos hlast, if_pos hlast, w64 (x := (i : Int) + kk) (by omega) (by omega), w64 (by omega) (by omega)]
        simp
      · rw [if_neg hlast, if_neg hlast, w64 (x := (kk : Int) + 1) (by omega) (by omega)]
        simp

theorem pow_step (kk : Nat) : (2 : Int) ^ (7 * kk) * 128 = 2 ^ (7 * (kk + 1)) := by rw [Nat.mul_add, Int.pow_add]; rfl
theorem pow_pos' (kk : Nat) : (0 : Int) < 2 ^ (7 * kk) := Int.pow_pos (by decide)
theorem acc_bound (n c : Int) (kk : Nat) (hn : n < 2 ^ (7 * kk)) (hc : c < 128) : n + c * 2 ^ (7 * kk) < 2 ^ (7 * (kk + 1)) := by
  rw [← pow_step]
  have hp := pow_pos' kk
  have h1 : c * 2 ^ (7 * kk) ≤ 127 * 2 ^ (7 * kk) := Int.mul_le_mul_of_nonneg_right (by omega) (by omega)
  omega
/-- What any bytes tell: an error, and no number; or a number whose bytes these are. -/
theorem get_any (l : List Int) (hl : ∀ x ∈ l, 0 ≤ x ∧ x ≤ 255) (hlen : l.length ≤ 1000000) (i : Nat) (d : Nat) : ∀ (kk : Nat) (n : Int), kk ≤ 9 → i + kk + d = l.length → 0 ≤ n → n < 2 ^ (7 * kk) →
    ∃ v e c, Ev (fun k => varint_Get.l0 k l i n (l.drop i) ((l.drop i).length : Int) kk) (v, e, c) ∧ (c ≠ 0 → v = 0) ∧ (c = 0 → ∃ m j : Nat, v = n + (m : Int) * 2 ^ (7 * kk) ∧ e = ((i + kk + j : Nat) : Int) ∧ 1 ≤ j ∧ i + kk + j ≤ l.length ∧ putN m = (l.drop (i + kk)).take j ∧ (0 < kk → 0 < m) ∧ 0 ≤ v ∧ v < 18446744073709551616) := by
  induction d with
  | zero =>
    intro kk n hk hd hn hn2
    refine ⟨0, (l.length : Int), 4, ⟨1, fun k hk1 => ?_⟩, fun _ => rfl, fun h => by simp at h⟩
    obtain ⟨k, rfl⟩ : ∃ m, k = m + 1 := ⟨k - 1, by omega⟩
    simp only [varint_Get.l0]
    rw [if_neg (by simp; omega)]
  | succ d ih =>
    intro kk n hk hd hn hn2
    have hmem := hl _ (rd_mem (l := l) (i := ((i + kk : Nat) : Int)) (by omega) (by omega))
    obtain ⟨c, hc⟩ : ∃ c, rd l ((i + kk : Nat) : Int) = c := ⟨_, rfl⟩
    rw [hc] at hmem
    have hs := get_step l hlen i kk n c (by omega) hc hmem hk hn hn2
    have hdrop : l.drop (i + kk) = c :: l.drop (i + kk + 1) := by
      rw [List.drop_eq_getElem_cons (by omega)]
      congr 1
      rw [← hc]; unfold rd
      rw [List.getD_eq_getElem?_getD, Int.toNat_natCast, List.getElem?_eq_getElem (by omega)]; rfl
    by_cases h9 : kk = 9 ∧ 1 < c
    · refine ⟨0, ((i + kk : Nat) : Int), 3, ⟨3, fun k hk1 => ?_⟩, fun _ => rfl, fun h => by simp at h⟩
      obtain ⟨k, rfl⟩ : ∃ m, k = m + 1 + 1 + 1 := ⟨k - 3, by omega⟩
      dsimp only; rw [hs, if_pos h9]
    · by_cases hz : 0 < kk ∧ c = 0
      · refine ⟨0, ((i + kk : Nat) : Int), 2, ⟨3, fun k hk1 => ?_⟩, fun _ => rfl, fun h => by simp at h⟩
        obtain ⟨k, rfl⟩ : ∃ m, k = m + 1 + 1 + 1 := ⟨k - 3, by omega⟩
        dsimp only; rw [hs, if_neg h9, if_pos hz]
      · have hp := pow_pos' kk
        have hb := acc_bound n (c % 128) kk hn2 (by omega)
        have hm0 : 0 ≤ c % 128 * 2 ^ (7 * kk) := Int.mul_nonneg (by omega) (by omega)
        by_cases hlast : c < 128
        · refine ⟨n + (c % 128) * 2 ^ (7 * kk), ((i + kk + 1 : Nat) : Int), 0, ⟨3, fun k hk1 => ?_⟩, fun h => absurd rfl h, fun _ => ⟨c.toNat, 1, ?_, rfl, by omega, by omega, ?_, fun h0 => by omega, by omega, ?_⟩⟩
          · obtain ⟨k, rfl⟩ : ∃ m, k = m + 1 + 1 + 1 := ⟨k - 3, by omega⟩
            dsimp only; rw [hs, if_neg h9, if_neg hz, if_pos hlast]
          · rw [show c % 128 = c by omega, show ((c.toNat : Nat) : Int) = c by omega]
          · rw [hdrop, putN, dif_pos (by omega)]; simp; omega
          · rcases Nat.lt_or_ge kk 9 with h8 | h8
            · have : (2 : Int) ^ (7 * (kk + 1)) ≤ 2 ^ 63 := by exact_mod_cast Nat.pow_le_pow_right (by omega) (by omega)
              omega
            · obtain rfl : kk = 9 := by omega
              have : c ≤ 1 := by omega
              simp only [Nat.reduceMul, Int.reducePow] at hn2 ⊢
              omega
        · have hk8 : kk ≤ 8 := by
            rcases Nat.lt_or_ge kk 9 with h | h
            · omega
            · exact absurd ⟨by omega, by omega⟩ h9
          obtain ⟨v, e, r, ⟨K, e1⟩, hbad, hgood⟩ := ih (kk + 1) (n + (c % 128) * 2 ^ (7 * kk)) (by omega) (by omega) (by omega) hb
          refine ⟨v, e, r, ⟨K + 3, fun k hk1 => ?_⟩, hbad, fun h0 => ?_⟩
          · obtain ⟨k, rfl⟩ : ∃ m, k = m + 1 + 1 + 1 := ⟨k - 3, by omega⟩
            dsimp only; rw [hs, if_neg h9, if_neg hz, if_neg hlast]
            exact e1 k (by omega)
          · obtain ⟨m, j, g1, g2, g3, g4, g5, g6, g7, g8⟩ := hgood h0
            refine ⟨(c % 128).toNat + 128 * m, j + 1, ?_, by rw [g2]; congr 1; omega, by omega, by omega, ?_, fun _ => by omega, g7, g8⟩
            · rw [g1, ← pow_step]
              have e3 : (((c % 128).toNat + 128 * m : Nat) : Int) = c % 128 + 128 * (m : Int) := by omega
              rw [e3, Int.add_mul, Int.mul_comm 128 (m : Int), Int.mul_assoc, Int.mul_comm 128, Int.add_assoc]
            · have hm := g6 (by omega)
              rw [putN, dif_neg (by omega), hdrop, List.take_succ_cons, show i + kk + 1 = i + (kk + 1) by omega, ← g5, show ((c % 128).toNat + 128 * m) / 128 = m by omega]
              congr 1; omega
/-- What is put is got. -/
theorem get_back (l : List Int) (hl : ∀ x ∈ l, 0 ≤ x ∧ x ≤ 255) (hlen : l.length ≤ 1000000) (i : Nat) (rest : List Int) (m : Nat) : ∀ (kk : Nat) (n : Int), l.drop (i + kk) = putN m ++ rest → kk ≤ 9 → (0 < kk → 0 < m) → 0 ≤ n → n < 2 ^ (7 * kk) → n + (m : Int) * 2 ^ (7 * kk) < 18446744073709551616 →
    Ev (fun k => varint_Get.l0 k l i n (l.drop i) ((l.drop i).length : Int) kk) (n + (m : Int) * 2 ^ (7 * kk), ((i + kk + (putN m).length : Nat) : Int), 0) := by
  fun_induction putN m with
  | case1 m h =>
    intro kk n hd hk h0 hn hn2 ht
    have hlt : i + kk < l.length := by have := congrArg List.length hd; simp at this; omega
    have hrd : rd l ((i + kk : Nat) : Int) = ((m % 128 : Nat) : Int) := by
      have h1 : l[i + kk]? = some ((m % 128 : Nat) : Int) := by have := congrArg (·[0]?) hd; simpa using this
      unfold rd; rw [List.getD_eq_getElem?_getD, Int.toNat_natCast, h1]; rfl
    have hs := get_step l hlen i kk n _ hlt hrd (by omega) hk hn hn2
    have hp := pow_pos' kk
    have h9 : ¬ (kk = 9 ∧ 1 < ((m % 128 : Nat) : Int)) := by
      rintro ⟨rfl, h1⟩
      simp only [Nat.reduceMul, Int.reducePow] at ht
      omega
    refine ⟨3, fun k hk1 => ?_⟩
    obtain ⟨k, rfl⟩ : ∃ m, k = m + 1 + 1 + 1 := ⟨k - 3, by omega⟩
    dsimp only
    rw [hs, if_neg h9, if_neg (fun h1 => by have := h0 h1.1; omega), if_pos (by omega)]
    have e1 : ((m % 128 : Nat) : Int) % 128 = (m : Int) := by omega
    rw [e1]; simp
  | case2 m h ih =>
    intro kk n hd hk h0 hn hn2 ht
    have hlt : i + kk < l.length := by have := congrArg List.length hd; simp at this; omega
    have hrd : rd l ((i + kk : Nat) : Int) = ((m % 128 + 128 : Nat) : Int) := by
      have h1 : l[i + kk]? = some ((m % 128 + 128 : Nat) : Int) := by have := congrArg (·[0]?) hd; simpa using this
      unfold rd; rw [List.getD_eq_getElem?_getD, Int.toNat_natCast, h1]; rfl
    have hs := get_step l hlen i kk n _ hlt hrd (by omega) hk hn hn2
    have hp := pow_pos' kk
    have h9 : ¬ (kk = 9 ∧ 1 < ((m % 128 + 128 : Nat) : Int)) := by
      rintro ⟨rfl, h1⟩
      simp only [Nat.reduceMul, Int.reducePow] at ht
      omega
    have hk8 : kk ≤ 8 := by
      rcases Nat.lt_or_ge kk 9 with h1 | h1
      · omega
      · exact absurd ⟨by omega, by omega⟩ h9
    have e1 : ((m % 128 + 128 : Nat) : Int) % 128 = ((m % 128 : Nat) : Int) := by omega
    have hb := acc_bound n ((m % 128 : Nat) : Int) kk hn2 (by omega)
    have hm0 : 0 ≤ ((m % 128 : Nat) : Int) * 2 ^ (7 * kk) := Int.mul_nonneg (by omega) (by omega)
    have hsum : n + ((m % 128 : Nat) : Int) * 2 ^ (7 * kk) + ((m / 128 : Nat) : Int) * 2 ^ (7 * (kk + 1)) = n + (m : Int) * 2 ^ (7 * kk) := by
      rw [← pow_step, Int.mul_comm (2 ^ (7 * kk)) 128, ← Int.mul_assoc, Int.add_assoc, ← Int.add_mul]
      congr 2; omega
    have hd' : l.drop (i + (kk + 1)) = putN (m / 128) ++ rest := by
      have := congrArg List.tail hd
      rw [show i + (kk + 1) = i + kk + 1 by omega]
      simpa [List.tail_drop] using this
    obtain ⟨K, e2⟩ := ih (kk + 1) (n + ((m % 128 : Nat) : Int) * 2 ^ (7 * kk)) hd' (by omega) (fun _ => by omega) (by omega) hb (by rw [hsum]; exact ht)
    refine ⟨K + 3, fun k hk1 => ?_⟩
    obtain ⟨k, rfl⟩ : ∃ m, k = m + 1 + 1 + 1 := ⟨k - 3, by omega⟩
    dsimp only
    rw [hs, if_neg h9, if_neg (fun h1 => by omega), if_neg (by omega), e1]
    have := e2 k (by omega)
    dsimp only at this
    rw [this, hsum]
    simp only [List.length_cons]
    congr 3; omega
theorem get_f (l : List Int) (i : Nat) (hi : i ≤ l.length) {r : Int × Int × Int} (h : Ev (fun k => varint_Get.l0 k l i 0 (l.drop i) ((l.drop i).length : Int) ((0 : Nat) : Int)) r) : Ev (fun k => varint_Get.f k l (i : Int)) r := by
  obtain ⟨K, e⟩ := h
  have hd : decide ((i : Int) > (l.length : Int)) = false := by simp; omega
  refine ⟨K + 1, fun k hk1 => ?_⟩
  obtain ⟨k, rfl⟩ : ∃ m, k = m + 1 := ⟨k - 1, by omega⟩
  simp only [varint_Get.f, varint_Get.j0]
  rw [if_neg (by omega), hd, if_neg (by simp), if_pos (by omega), if_pos (by omega)]
  exact e k (by omega)
end Go.Proofs.Ythkpocgbinmeiaa.U

/- Proved: a number takes a byte for each 7 bits, one at least; a greater one takes no fewer. No condition. -/
import Derived.Test.YthkpocgbinmeiaaP4
import Derived.Test.YthkpocgbinmeiaaUPut
namespace Go.Proofs.Ythkpocgbinmeiaa.Pure
open Go.RowKit Go.Proofs.Ythkpocgbinmeiaa.P Go.Proofs.YthkpocgbinmeiaaW.PrintWords Go.Proofs.YthkpocgbinmeiaaW.PrintLast Go.Proofs.YthkpocgbinmeiaaW.PrintMore Go.Proofs.Ythkpocgbinmeiaa.U
set_option linter.unusedVariables false
set_option linter.unusedSimpArgs false

/-- A number has L bits. -/
def Bits (n L : Nat) : Prop := n < 2 ^ L ∧ (0 < L → 2 ^ (L - 1) ≤ n)
theorem Bits.shift {n L : Nat} (s : Nat) (h : Bits (n / 2 ^ s) L) (hL : 0 < L) : Bits n (L + s) := by
  have hp := Nat.two_pow_pos s
  refine ⟨?_, fun _ => ?_⟩
  · rw [Nat.pow_add]; exact (Nat.div_lt_iff_lt_mul hp).1 h.1
  · rw [show L + s - 1 = (L - 1) + s by omega, Nat.pow_add]; exact (Nat.le_div_iff_mul_le hp).1 (h.2 hL)
theorem Bits.pos {n L : Nat} (h : Bits n L) (hn : 0 < n) : 0 < L := by
  rcases Nat.eq_zero_or_pos L with rfl | h0
  · have := h.1; simp at this; omega
  · exact h0
set_option maxRecDepth 100000
def tab8 : ByteArray := ⟨#[0, 1, 2, 2, 3, 3, 3, 3, 4, 4, 4, 4, 4, 4, 4, 4, 5, 5, 5, 5, 5, 5, 5, 5, 5, 5, 5, 5, 5, 5, 5, 5, 6, 6, 6, 6, 6, 6, 6, 6, 6, 6, 6, 6, 6, 6, 6, 6, 6, 6, 6, 6, 6, 6, 6, 6, 6, 6, 6, 6, 6, 6, 6, 6, 7, 7, 7, 7, 7, 7, 7, 7, 7, 7, 7, 7, 7, 7, 7, 7, 7, 7, 7, 7, 7, 7, 7, 7, 7, 7, 7, 7, 7, 7, 7, 7, 7, 7, 7, 7, 7, 7, 7, 7, 7, 7, 7, 7, 7, 7, 7, 7, 7, 7, 7, 7, 7, 7, 7, 7, 7, 7, 7, 7, 7, 7, 7, 7, 8, 8, 8, 8, 8, 8, 8, 8, 8, 8, 8, 8, 8, 8, 8, 8, 8, 8, 8, 8, 8, 8, 8, 8, 8, 8, 8, 8, 8, 8, 8, 8, 8, 8, 8, 8, 8, 8, 8, 8, 8, 8, 8, 8, 8, 8, 8, 8, 8, 8, 8, 8, 8, 8, 8, 8, 8, 8, 8, 8, 8, 8, 8, 8, 8, 8, 8, 8, 8, 8, 8, 8, 8, 8, 8, 8, 8, 8, 8, 8, 8, 8, 8, 8, 8, 8, 8, 8, 8, 8, 8, 8, 8, 8, 8, 8, 8, 8, 8, 8, 8, 8, 8, 8, 8, 8, 8, 8, 8, 8, 8, 8, 8, 8, 8, 8, 8, 8, 8, 8, 8, 8, 8, 8, 8, 8, 8, 8]⟩
theorem tab_bits : ∀ i : Fin 256, (∃ L : Fin 9, bt tab8 (i.val : Int) = L.val ∧ i.val < 2 ^ L.val ∧ (0 < L.val → 2 ^ (L.val - 1) ≤ i.val)) := by decide +kernel
theorem tab_at (i : Int) (h0 : 0 ≤ i) (h1 : i < 256) : ∃ L : Nat, bt tab8 i = L ∧ L ≤ 8 ∧ Bits i.toNat L := by
  obtain ⟨L, e, h2, h3⟩ := tab_bits ⟨i.toNat, by omega⟩
  exact ⟨L.val, by rw [← e]; congr 1; simp; omega, by omega, h2, h3⟩
theorem len_j0 (m s : Nat) (hs : s ≤ 32) (hm : m < 4294967296) : ∃ L : Nat, Ev (fun k => bits_Len64.j0 k (m : Int) (s : Int)) ((s + L : Nat) : Int) ∧ Bits m L ∧ L ≤ 32 := by
  have unf : ∀ k, bits_Len64.j0 (k + 1) (m : Int) (s : Int) = if (m : Int) ≥ 65536 then (if (m : Int) / 65536 ≥ 256 then (if 0 ≤ ((m : Int) / 65536 / 256) % 256 then (if ((m : Int) / 65536 / 256) % 256 < 256 then some (wrap64 (wrap64 (wrap64 ((s : Int) + 16) + 8) + wrap64 (bt tab8 (((m : Int) / 65536 / 256) % 256)))) else none) else none) else (if 0 ≤ ((m : Int) / 65536) % 256 then (if ((m : Int) / 65536) % 256 < 256 then some (wrap64 (wrap64 ((s : Int) + 16) + wrap64 (bt tab8 (((m : Int) / 65536) % 256)))) else none) else none)) else (if (m : Int) ≥ 256 then (if 0 ≤ ((m : Int) / 256) % 256 then (if ((m : Int) / 256) % 256 < 256 then some (wrap64 (wrap64 ((s : Int) + 8) + wrap64 (bt tab8 (((m : Int) / 256) % 256)))) else none) else none) else (if 0 ≤ (m : Int) % 256 then (if (m : Int) % 256 < 256 then some (wrap64 ((s : Int) + wrap64 (bt tab8 ((m : Int) % 256)))) else none) else none)) := fun k => rfl
  by_cases h1 : 65536 ≤ m
  · by_cases h2 : 256 ≤ m / 65536
    · obtain ⟨L, e, h8, hb⟩ := tab_at (((m : Int) / 65536 / 256) % 256) (by omega) (by omega)
      have hq : (((m : Int) / 65536 / 256) % 256).toNat = m / 65536 / 256 := by omega
      rw [hq] at hb
      have hL := hb.pos (by omega)
      refine ⟨L + 8 + 16, ⟨1, fun k hk => ?_⟩, ?_, by omega⟩
      · obtain ⟨k, rfl⟩ : ∃ m, k = m + 1 := ⟨k - 1, by omega⟩
        dsimp only
        rw [unf, if_pos (by omega), if_pos (by omega), if_pos (by omega), if_pos (by omega), e, w64 (x := (s : Int) + 16) (by omega) (by omega), w64 (x := (s : Int) + 16 + 8) (by omega) (by omega), w64 (x := (L : Int)) (by omega) (by omega), w64 (by omega) (by omega)]
        congr 1; omega
      · refine Bits.shift 16 (Bits.shift 8 hb hL) (by omega)
    · obtain ⟨L, e, h8, hb⟩ := tab_at (((m : Int) / 65536) % 256) (by omega) (by omega)
      have hq : (((m : Int) / 65536) % 256).toNat = m / 65536 := by omega
      rw [hq] at hb
      have hL := hb.pos (by omega)
      refine ⟨L + 16, ⟨1, fun k hk => ?_⟩, Bits.shift 16 hb hL, by omega⟩
      obtain ⟨k, rfl⟩ : ∃ m, k = m + 1 := ⟨k - 1, by omega⟩
      dsimp only
      rw [unf, if_pos (by omega), if_neg (by omega), if_pos (by omega), if_pos (by omega), e, w64 (x := (s : Int) + 16) (by omega) (by omega), w64 (x := (L : Int)) (by omega) (by omega), w64 (by omega) (by omega)]
      congr 1; omega
  · by_cases h2 : 256 ≤ m
    · obtain ⟨L, e, h8, hb⟩ := tab_at (((m : Int) / 256) % 256) (by omega) (by omega)
      have hq : (((m : Int) / 256) % 256).toNat = m / 256 := by omega
      rw [hq] at hb
      have hL := hb.pos (by omega)
      refine ⟨L + 8, ⟨1, fun k hk => ?_⟩, Bits.shift 8 hb hL, by omega⟩
      obtain ⟨k, rfl⟩ : ∃ m, k = m + 1 := ⟨k - 1, by omega⟩
      dsimp only
      rw [unf, if_neg (by omega), if_pos (by omega), if_pos (by omega), if_pos (by omega), e, w64 (x := (s : Int) + 8) (by omega) (by omega), w64 (x := (L : Int)) (by omega) (by omega), w64 (by omega) (by omega)]
      congr 1; omega
    · obtain ⟨L, e, h8, hb⟩ := tab_at ((m : Int) % 256) (by omega) (by omega)
      have hq : ((m : Int) % 256).toNat = m := by omega
      rw [hq] at hb
      refine ⟨L, ⟨1, fun k hk => ?_⟩, hb, by omega⟩
      obtain ⟨k, rfl⟩ : ∃ m, k = m + 1 := ⟨k - 1, by omega⟩
      dsimp only
      rw [unf, if_neg (by omega), if_neg (by omega), if_pos (by omega), if_pos (by omega), e, w64 (x := (L : Int)) (by omega) (by omega), w64 (by omega) (by omega)]
      congr 1
theorem len64_ev (n : Nat) (hn : n < 18446744073709551616) : ∃ L : Nat, Ev (fun k => bits_Len64.f k (n : Int)) (L : Int) ∧ Bits n L ∧ L ≤ 64 := by
  by_cases h : 4294967296 ≤ n
  · obtain ⟨L, ⟨K, e⟩, hb, hl⟩ := len_j0 (n / 4294967296) 32 (by omega) (by omega)
    refine ⟨L + 32, ⟨K, fun k hk => ?_⟩, Bits.shift 32 hb (hb.pos (by omega)), by omega⟩
    have := e k hk
    simp only [bits_Len64.f]
    rw [if_pos (by omega), show (n : Int) / 4294967296 = ((n / 4294967296 : Nat) : Int) by omega]
    dsimp only at this
    rw [show (32 : Int) = ((32 : Nat) : Int) from rfl, this]
    congr 1; omega
  · obtain ⟨L, ⟨K, e⟩, hb, hl⟩ := len_j0 n 0 (by omega) (by omega)
    refine ⟨L, ⟨K, fun k hk => ?_⟩, hb, by omega⟩
    have := e k hk
    simp only [bits_Len64.f]
    rw [if_neg (by omega)]
    dsimp only at this
    rw [show (0 : Int) = ((0 : Nat) : Int) from rfl, this]
    congr 1; omega
/-- How many bytes: bounds on the number. -/
theorem putN_bounds (n : Nat) : 0 < (putN n).length ∧ n < 128 ^ (putN n).length ∧ (1 < (putN n).length → 128 ^ ((putN n).length - 1) ≤ n) := by
  fun_induction putN n with
  | case1 n h => simp; omega
  | case2 n h ih =>
    obtain ⟨h1, h2, h3⟩ := ih
    have hp : 128 ^ ((putN (n / 128)).length + 1) = 128 ^ (putN (n / 128)).length * 128 := rfl
    refine ⟨by simp, by simp only [List.length_cons]; omega, fun _ => ?_⟩
    simp only [List.length_cons, Nat.add_sub_cancel]
    by_cases h4 : 1 < (putN (n / 128)).length
    · have := h3 h4
      have hq : 128 ^ (putN (n / 128)).length = 128 ^ ((putN (n / 128)).length - 1) * 128 := by rw [← Nat.pow_succ]; congr 1; omega
      omega
    · have : (putN (n / 128)).length = 1 := by omega
      rw [this]; omega
theorem putN_mono {n m : Nat} (h : n ≤ m) : (putN n).length ≤ (putN m).length := by
  obtain ⟨a1, a2, a3⟩ := putN_bounds n
  obtain ⟨b1, b2, b3⟩ := putN_bounds m
  rcases Nat.lt_or_ge (putN m).length (putN n).length with hlt | hge
  · have h4 := a3 (by omega)
    have h5 : 128 ^ (putN m).length ≤ 128 ^ ((putN n).length - 1) := Nat.pow_le_pow_right (by omega) (by omega)
    omega
  · exact hge
theorem len_is (n L : Nat) (hb : Bits n L) : ((putN n).length : Int) = max (((L : Int) + 6) / 7) 1 := by
  obtain ⟨a1, a2, a3⟩ := putN_bounds n
  obtain ⟨p, hp⟩ : ∃ p, p = (putN n).length := ⟨_, rfl⟩
  rw [← hp] at a1 a2 a3 ⊢
  have e7 : ∀ j, 128 ^ j = 2 ^ (7 * j) := fun j => by rw [Nat.pow_mul]
  rcases Nat.eq_zero_or_pos L with rfl | hL
  · have h0 : n = 0 := by have := hb.1; simp at this; omega
    have : p = 1 := by
      rcases Nat.lt_or_ge 1 p with h | h
      · have h1 := a3 h; have := Nat.pow_pos (n := p - 1) (show 0 < 128 by omega); omega
      · omega
    rw [this]; rfl
  · have h1 : L ≤ 7 * p := by
      rcases Nat.lt_or_ge (7 * p) L with h | h
      · have h2 := hb.2 hL
        have h3 : 2 ^ (7 * p) ≤ 2 ^ (L - 1) := Nat.pow_le_pow_right (by omega) (by omega)
        rw [e7] at a2; omega
      · exact h
    have h2 : 7 * (p - 1) < L := by
      rcases Nat.lt_or_ge (7 * (p - 1)) L with h | h
      · exact h
      · have h3 : 2 ^ L ≤ 2 ^ (7 * (p - 1)) := Nat.pow_le_pow_right (by omega) h
        have h4 := hb.1
        rcases Nat.lt_or_ge 1 p with h5 | h5
        · have h6 := a3 h5; rw [e7] at h6; omega
        · have : p = 1 := by omega
          subst this; simp at h3; omega
    omega

theorem VarintLength : recantlaw03_VarintLength.Pure := by
  intro a0 a1 h0 h1
  obtain ⟨n, rfl, hn⟩ := bounds64 h0
  obtain ⟨m, rfl, hm⟩ := bounds64 h1
  obtain ⟨K1, e1⟩ := alive_yes
  obtain ⟨L, ⟨K2, e2⟩, hb, hL⟩ := len64_ev n hn
  have hlen := len_is n L hb
  dsimp only at e1 e2
  refine ⟨max K1 K2, ?_⟩
  simp only [recantlaw03_VarintLength.f]
  rw [put_f n hn, Option.bind_some, put_f m hm, Option.bind_some, e1 _ (by omega), Option.bind_some, if_pos rfl, e2 _ (by omega), Option.bind_some, w64 (x := (L : Int) + 6) (by omega) (by omega), Int.tdiv_eq_ediv_of_nonneg (by omega), w64 (by omega) (by omega)]
  rw [if_pos (by rw [hlen]; unfold mx; split <;> omega)]
  rcases Nat.lt_trichotomy n m with h | h | h
  · have := putN_mono (Nat.le_of_lt h)
    rw [if_neg (by omega), if_pos (by omega), if_pos (by omega)]
  · subst h
    rw [if_neg (by omega), if_pos (by omega), if_neg (by omega)]; simp
  · have := putN_mono (Nat.le_of_lt h)
    rw [if_pos (by omega), if_neg (by omega)]; simp; omega

end Go.Proofs.Ythkpocgbinmeiaa.Pure

/- CycleMore's walk, ours: along the ways on which it answers true. -/
import Derived.Test.YtimbamimabdmcaaUCycle
import Derived.Test.YtimbamimabdmcaaP5
import Derived.Test.YtimbamimabdmcaaP1
import Derived.Test.YtimbamimabdmcaaGClone
import Derived.Deep.RegionWith
import Derived.Deep.DeepCutAuto
namespace Go.Proofs.Ytimbamimabdmcaa.P
set_option linter.unusedVariables false
set_option linter.unusedSimpArgs false
open Go Go.RowKit Go.Proofs.YtimbamimabdmcaaW.PrintWords Go.Proofs.YtimbamimabdmcaaW.PrintLast Go.Proofs.YtimbamimabdmcaaW.PrintMore

def idxM (i n : Int) : Int := Int.tmod (wrap64 (Int.tmod i n + n)) n
theorem idxM_in (i : Int) (n : Nat) (h0 : 0 < n) (h1 : n ≤ 1000) : 0 ≤ idxM i n ∧ idxM i n < n := by
  have h2 : Int.tmod i n < n := Int.tmod_lt_of_pos _ (by omega)
  have h3 : -(n : Int) < Int.tmod i n := by
    have := Int.lt_tmod_of_pos i (show (0 : Int) < n by omega)
    omega
  unfold idxM
  rw [Go.Proofs.Ytimbamimabdmcaa.U.w64 (by omega) (by omega), Int.tmod_eq_emod_of_nonneg (by omega)]
  exact ⟨Int.emod_nonneg _ (by omega), Int.emod_lt_of_pos _ (by omega)⟩
def orAt (a : List Int) (i k : Int) : List Int := a.set i.toNat (orBit (rd a i) k.toNat)
/-- What must hold for the law to answer true. -/
def CMF (a : List Int) (i k : Int) : Prop :=
  ∃ l e, cycle_Least.f a = some (l, e) ∧
    (((e = 1 ∨ a.length = 0) ∧ l = []) ∨
     (e ≠ 1 ∧ 0 < a.length ∧ ∃ m f, cycle_Least.f (orAt a i k) = some (m, f) ∧
       ((e = 7 ∧ l = [] ∧ (f = 7 ∨ (f = 0 ∧ m.length < 100 ∧ m.contains i = true ∧ m.contains k = true))) ∨
        (e ≠ 7 ∧ e = 0 ∧ f = 0 ∧ 0 < m.length ∧ (m.length < l.length ∨ (¬ m.length < l.length ∧ m.length = l.length ∧ ∃ c K, slices_Compare_int_int.f K m l = some c ∧ c ≤ 0))))))
def recantlaw18_CycleMore.Pure : Prop := ∀ (l0 : List Int) (a1 a2 : Int), l0.length ≤ maxLen → l0.length * 4 ≤ 140737488351232 → (∀ x ∈ l0, (Lit.int .u32 x).wf = true) → (Lit.int .i64 a1).wf = true → (Lit.int .i64 a2).wf = true →
  CMF (l0.take (mn (l0.length : Int) 8).toNat) (idxM a1 ((l0.take (mn (l0.length : Int) 8).toNat).length : Int)) (idxM a2 ((l0.take (mn (l0.length : Int) 8).toNat).length : Int))
set_option maxHeartbeats 400000 in
theorem more_in (A0 : Option Addr) (c0 : Nat) (l0 : List Int) (i0 k0 : Int) (w : World) (hr0 : Kd.C (Kd.int .u32) w A0 l0.length l0) (hc0 : l0.length ≤ c0) (hi0 : (Lit.int .i64 i0).wf = true) (hk0 : (Lit.int .i64 k0).wf = true)
    (h : CMF (l0.take (mn (l0.length : Int) 8).toNat) (idxM i0 ((l0.take (mn (l0.length : Int) 8).toNat).length : Int)) (idxM k0 ((l0.take (mn (l0.length : Int) 8).toNat).length : Int))) :
    Calls Try.prog 4 #[.slice A0 l0.length c0, .int .i64 i0, .int .i64 k0] w fun e w' => e = .returned (.bool true) ∧ Below w.heap.size w w' := by
  obtain ⟨Ka, ea⟩ := Go.Proofs.Ytimbamimabdmcaa.U.alive18
  have hal := fun W => Lib.hid (recantlaw18_alive.calls Ka true W (ea Ka (Nat.le_refl _)))
  have t1 : 0 ≤ mn (l0.length : Int) 8 := by unfold mn; split <;> omega
  have t2 : mn (l0.length : Int) 8 ≤ (l0.length : Int) := by unfold mn; split <;> omega
  have t3 : mn (l0.length : Int) 8 ≤ 8 := by unfold mn; split <;> omega
  obtain ⟨n, hn⟩ := Int.eq_ofNat_of_zero_le t1
  obtain ⟨a, ha⟩ : ∃ a, a = l0.take (mn (l0.length : Int) 8).toNat := ⟨_, rfl⟩
  rw [← ha] at h
  have hal2 : a.length = n := by rw [ha, hn, Int.toNat_natCast, List.length_take]; omega
  have hra : Kd.C (Kd.int .u32) w A0 a.length a := by
    rw [ha, hn, Int.toNat_natCast]
    exact Kd.C_take (m := n) hr0 (by omega)
  have hca : a.length ≤ c0 := by omega
  obtain ⟨l, e, hle, hway⟩ := h
  have hL1 := cycle_Least.calls A0 c0 a l e w hra hca hle
  rw [hal2] at hway hL1
  have hlen8 : n ≤ 8 := by omega
  have hnl : (n : Int) ≤ l0.length := by omega
  have HL1 := Lib.hid hL1
  have HRA := Lib.hid hra
  have hmn : (if (8 : Int) < (l0.length : Int) then (8 : Int) else (l0.length : Int)) = (n : Int) := hn
  have HAL := Lib.hid hal2
  have HA := Lib.hid ha
  clear hL1 hra hn hle t1 t2 t3 ea ha hal2
  rcases hway with ⟨hen, hl⟩ | ⟨he1, hn0, m, f, hmf, hway⟩
  · subst hl
    have hc : (∃ he : (e == 1) = true, True) ∨ (∃ he : (e == 1) = false, (n : Int) = 0) := by
      by_cases h1 : e = 1
      · left; exact ⟨by rw [h1]; rfl, trivial⟩
      · right; exact ⟨by simpa using h1, by omega⟩
    clear hen
    rcases hc with ⟨hb, _⟩ | ⟨hb, hz⟩
    · go_enter Try.func4, Try.ntmps4
      go_wp2_with (first
        | (go_at_call 8; refine HL1.out.mono ?_; rintro e w1 ⟨v, rfl, hR, hB⟩; obtain ⟨Ao, co, rfl⟩ := Kd.R_slice hR; have HB := Lib.hid hB; clear hR hB)
        | (go_at_call 11; refine (hal _).out.mono ?_; rintro e w2 ⟨rfl, hB2⟩; have HB2 := Lib.hid (HB.out.trans (hB2.mono HB.out.size)); clear hB2))
      go_ret
      exact ⟨rfl, HB2.out⟩
    · have hz0 : ((n : Int) == 0) = true := by simpa using hz
      clear hz
      go_enter Try.func4, Try.ntmps4
      go_wp2_with (first
        | (go_at_call 8; refine HL1.out.mono ?_; rintro e w1 ⟨v, rfl, hR, hB⟩; obtain ⟨Ao, co, rfl⟩ := Kd.R_slice hR; have HB := Lib.hid hB; clear hR hB)
        | (go_at_call 11; refine (hal _).out.mono ?_; rintro e w2 ⟨rfl, hB2⟩; have HB2 := Lib.hid (HB.out.trans (hB2.mono HB.out.size)); clear hB2))
      go_ret
      exact ⟨rfl, HB2.out⟩
  · have hb1 : (e == 1) = false := by simpa using he1
    have hz1 : ((n : Int) == 0) = false := by simp; omega
    have HM := Lib.hid hmf
    have HW := Lib.hid hway
    clear hmf hway he1
    go_enter Try.func4, Try.ntmps4
    go_upto_region 5 with (first
        | (go_at_call 8; refine HL1.out.mono ?_; rintro e w1 ⟨v, rfl, hR, hB⟩; have HR := Lib.hid hR; have HB := Lib.hid hB; clear hR hB))
    have hnz : (n : Int) ≠ 0 := by omega
    have hq1 : -9223372036854775808 ≤ i0 ∧ i0 ≤ 9223372036854775807 := bounds_i64 hi0
    have hq2 : -9223372036854775808 ≤ k0 ∧ k0 ≤ 9223372036854775807 := bounds_i64 hk0
    go_quiet (fail)
    obtain ⟨hI0, hI1⟩ := idxM_in i0 n hn0 (by omega)
    obtain ⟨hK0, hK1⟩ := idxM_in k0 n hn0 (by omega)
    obtain ⟨I, hI⟩ := Int.eq_ofNat_of_zero_le hI0
    obtain ⟨J, hJ⟩ := Int.eq_ofNat_of_zero_le hK0
    rw [hI] at hI1 HM HW
    rw [hJ] at hK1 HM HW
    have hcl := Lib.hid (slices_Clone_uint32_uint32.calls A0 c0 a a (w1.drewN nq) (Kd.C_drewN (Kd.C_below HRA.out HB.out) nq) hca (by unfold slices_Clone_uint32_uint32.f; rw [if_pos (by rw [HAL.out]; omega)]))
    rw [HAL.out] at hcl
    rw [show Int.tmod (wrap64 (Int.tmod i0 n + n)) n = (I : Int) from hI, show Int.tmod (wrap64 (Int.tmod k0 n + n)) n = (J : Int) from hJ]
    go_upto_region 7 with (first
      | (go_at_call 15; refine hcl.out.mono ?_; rintro e w2 ⟨v2, rfl, hR2, hB2⟩))
    obtain ⟨g, cap, rfl, hg0, hg1, _⟩ := Kd.R_form hR2 (by rw [HAL.out]; exact hn0)
    obtain ⟨hc7, hf7⟩ := Kd.R_cell (0 : Int) hR2 (I : Int) (by omega) (by rw [HAL.out]; omega)
    rw [Int.toNat_natCast] at hc7 hf7
    have hc7' : w2.cell? ⟨g, I, none⟩ = some (.int .u32 (rd a (I : Int))) := hc7
    have hBw2 : Below w1.heap.size w1 w2 := (pw_below_drewN (Below.refl _ w1) nq).trans (hB2.mono (Nat.le_refl _))
    have hl2 : Kd.R (Kd.int .i64) 3 w2 w.heap.size (fun k => k ≠ g) v l := Kd.R_mono (Kd.R_below (Kd.R_drewN (Kd.R_bound HR.out) nq) hB2) (fun k hk => by have h1 : k < w1.heap.size := hk.2.2.1; have h2 : w1.heap.size ≤ g := hg0; omega)
    obtain ⟨x, hx⟩ : ∃ x, x = orBit (rd a (I : Int)) J := ⟨_, rfl⟩
    have hxe : bits BinOp.or IntKind.u32 (rd a (I : Int)) (2 ^ J % 4294967296) = x := by rw [hx]; unfold orBit; rw [Nat.min_eq_left (by omega)]
    obtain ⟨W4, hW4⟩ : ∃ W4, W4 = (w2.setCell ⟨g, I, none⟩ (.int .u32 x)).drew := ⟨_, rfl⟩
    have hgw : w.heap.size ≤ g := Nat.le_trans HB.out.size hg0
    have HB4 : Hid (Below w.heap.size w W4) := Lib.hid (by rw [hW4]; exact ((HB.out.trans (hBw2.mono HB.out.size)).setCell (p := ⟨g, I, none⟩) hgw _).drew)
    have hl4 : Kd.R (Kd.int .i64) 3 W4 w.heap.size (fun k => k ≠ g) v l := by rw [hW4]; exact Kd.R_drew (Kd.R_far (p := ⟨g, I, none⟩) hl2 (fun k hk => hk) _)
    obtain ⟨Al, cl, rfl, hcl, hCl⟩ := Kd.R_reads hl4
    have hb4 : (orAt a (I : Int) (J : Int)).length = n := by unfold orAt; rw [List.length_set, HAL.out]
    have hC4 : Kd.C (Kd.int .u32) W4 (some ⟨g, 0, none⟩) (orAt a (I : Int) (J : Int)).length (orAt a (I : Int) (J : Int)) := by
      have h1 := (Kd.R_reads' (Kd.R_put hR2 (I : Int) x).1).2.2
      rw [hW4]
      refine Kd.C_drew ?_
      unfold orAt
      rw [Int.toNat_natCast, Int.toNat_natCast, ← hx]
      rw [Int.toNat_natCast] at h1
      exact h1
    have hn4 : (orAt a (I : Int) (J : Int)).length ≤ cap := by have := (Kd.R_reads' hR2).2.1; rw [hb4, ← HAL.out]; exact this
    have hL4 := cycle_Least.calls (some ⟨g, 0, none⟩) cap (orAt a (I : Int) (J : Int)) m f W4 hC4 hn4 HM.out
    rw [hb4] at hL4
    have HL4 := Lib.hid hL4
    have HCl := Lib.hid hCl
    have Hcl := Lib.hid hcl
    have HHX := Lib.hid hxe
    rw [HAL.out]
    clear hR2 hB2 hBw2 hl2 hl4 hC4 hL4 hcl hCl hx hxe hb4 hc7 hn4
    go_region
    rw [HHX.out, ← hW4]
    clear hc7' hf7 hW4
    rcases HW.out with ⟨he7, hlz, hf⟩ | ⟨he7, he0, hf0, hm0, hlen⟩
    · subst he7 hlz
      rcases hf with hf7 | ⟨hf0, hml, hci, hck⟩
      · subst hf7
        go_wp2_with (first
          | (go_at_call 8; refine HL4.out.mono ?_; rintro e w5 ⟨v5, rfl, hR5, hB5⟩; obtain ⟨A5, c5, rfl⟩ := Kd.R_slice hR5; have HB5 := Lib.hid (HB4.out.trans (hB5.mono HB4.out.size)); clear hR5 hB5)
          | (go_at_call 11; refine (hal _).out.mono ?_; rintro e w6 ⟨rfl, hB6⟩; have HB6 := Lib.hid (HB5.out.trans (hB6.mono HB5.out.size)); clear hB6))
        go_ret
        exact ⟨rfl, HB6.out⟩
      · subst hf0
        have hri := contains_run m (I : Int) (by omega)
        have hrk := contains_run m (J : Int) (by omega)
        rw [hci] at hri
        rw [hck] at hrk
        have HRI := Lib.hid hri
        have HRK := Lib.hid hrk
        clear hri hrk hci hck
        go_wp2_with (first
          | (go_at_call 8; refine HL4.out.mono ?_; rintro e w5 ⟨v5, rfl, hR5, hB5⟩; obtain ⟨A5, c5, rfl, hc5, hC5⟩ := Kd.R_reads hR5; have HC5 := Lib.hid hC5; have Hc5 := Lib.hid hc5; have HB5 := Lib.hid (HB4.out.trans (hB5.mono HB4.out.size)); clear hR5 hB5 hC5 hc5)
          | (go_at_call 11; refine (hal _).out.mono ?_; rintro e w6 ⟨rfl, hB6⟩; have HB6 := Lib.hid (HB5.out.trans (hB6.mono HB5.out.size)); have HC6 := Lib.hid (Kd.C_below HC5.out hB6); clear hB6)
          | (go_at_call 16; first | (refine (slices_Contains_int_int.calls (m.length + 1) A5 c5 m (I : Int) true w6 HC6.out Hc5.out HRI.out).mono ?_; rintro e w7 ⟨rfl, ⟨m7, rfl⟩⟩) | (refine (slices_Contains_int_int.calls (m.length + 1) A5 c5 m (J : Int) true _ (Kd.C_drewN HC6.out _) Hc5.out HRK.out).mono ?_; rintro e w8 ⟨rfl, ⟨m8, rfl⟩⟩)))
        go_ret
        exact ⟨rfl, pw_below_drewN HB6.out _⟩
    · subst he0 hf0
      have hm1 : decide (0 < (m.length : Int)) = true := decide_eq_true (by omega)
      rcases hlen with hlt | ⟨hnlt, heq, cv, K, hcv, hc0⟩
      · have hd1 : decide ((m.length : Int) < (l.length : Int)) = true := decide_eq_true (by omega)
        have hlt2 : (m.length : Int) < (l.length : Int) := by omega
        have hm2 : (0 : Int) < (m.length : Int) := by omega
        clear he7
        go_wp2_with (first
          | (go_at_call 8; refine HL4.out.mono ?_; rintro e w5 ⟨v5, rfl, hR5, hB5⟩; obtain ⟨A5, c5, rfl⟩ := Kd.R_slice hR5; have HB5 := Lib.hid (HB4.out.trans (hB5.mono HB4.out.size)); clear hR5 hB5)
          | (go_at_call 11; refine (hal _).out.mono ?_; rintro e w6 ⟨rfl, hB6⟩; have HB6 := Lib.hid (HB5.out.trans (hB6.mono HB5.out.size)); clear hB6))
        go_ret
        exact ⟨rfl, HB6.out⟩
      · have hd1 : decide ((m.length : Int) < (l.length : Int)) = false := decide_eq_false (by omega)
        have hd2 : ((m.length : Int) == (l.length : Int)) = true := by simp; omega
        have hd3 : decide (cv ≤ 0) = true := decide_eq_true hc0
        have HCV := Lib.hid hcv
        have hlt2 : ¬ (m.length : Int) < (l.length : Int) := by omega
        have hm2 : (0 : Int) < (m.length : Int) := by omega
        clear he7 hcv heq
        go_wp2_with (first
          | (go_at_call 8; refine HL4.out.mono ?_; rintro e w5 ⟨v5, rfl, hR5, hB5⟩; obtain ⟨A5, c5, rfl, hc5, hC5⟩ := Kd.R_reads hR5; have HC5 := Lib.hid hC5; have Hc5 := Lib.hid hc5; have HCL5 := Lib.hid (Kd.C_below HCl.out hB5); have HB5 := Lib.hid (HB4.out.trans (hB5.mono HB4.out.size)); clear hR5 hB5 hC5 hc5)
          | (go_at_call 11; refine (hal _).out.mono ?_; rintro e w6 ⟨rfl, hB6⟩; have HB6 := Lib.hid (HB5.out.trans (hB6.mono HB5.out.size)); have HC6 := Lib.hid (Kd.C_below HC5.out hB6); have HCL6 := Lib.hid (Kd.C_below HCL5.out hB6); clear hB6)
          | (go_at_call 17; refine (slices_Compare_int_int.calls K A5 c5 m Al cl l cv w6 HC6.out Hc5.out HCL6.out Hcl.out HCV.out).mono ?_; rintro e w7 ⟨rfl, ⟨m7, rfl⟩⟩))
        go_ret
        exact ⟨rfl, pw_below_drewN HB6.out _⟩
theorem recantlaw18_CycleMore.walk (P : recantlaw18_CycleMore.Pure) (a0 : Option Addr) (len0 cap0 : Nat) (z0 : List Int) (a1 a2 : Int) (w : World) (w0 : (a0 = none ∧ len0 = 0 ∧ cap0 = 0 ∧ z0 = []) ∨ ∃ x, a0 = some x ∧ len0 ≤ cap0 ∧ cap0 ≤ maxLen ∧ z0.length = cap0 ∧ (∀ i, i < z0.length → w.cell? (x.add i) = some (.int .u32 (z0.getD i 0))) ∧ ∀ n ∈ z0, (Lit.int .u32 n).wf = true) (y0 : len0 * 4 ≤ 140737488351232) (w1 : (Lit.int .i64 a1).wf = true) (w2 : (Lit.int .i64 a2).wf = true) :
    Calls Try.prog 4 #[.slice a0 len0 cap0, .int .i64 a1, .int .i64 a2] w fun e w' => e = .returned (.bool true) ∧ Below w.heap.size w w' := by
  obtain ⟨l0, rfl, hr0, hm0, hw0, hc0⟩ := ReadsInt.ofRowC w0
  exact more_in _ _ l0 a1 a2 w (Kd.C_of_reads (d := (0 : Int)) (h1 := fun _ => rfl) hr0) hc0 w1 w2 (P l0 a1 a2 hm0 y0 hw0 w1 w2)
end Go.Proofs.Ytimbamimabdmcaa.P

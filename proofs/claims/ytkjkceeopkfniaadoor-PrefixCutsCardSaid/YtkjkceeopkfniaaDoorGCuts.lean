/- recantlaw08.PrefixCuts, by hand: the walk of its true ways; prefix.Cut. -/
import Derived.Test.YtkjkceeopkfniaaDoorGAlike
import Derived.Test.YtkjkceeopkfniaaDoorGSerial
import Derived.Test.YtkjkceeopkfniaaDoorP4
import Derived.Test.YtkjkceeopkfniaaDoorP3
namespace Go.Proofs.YtkjkceeopkfniaaDoor.P
set_option linter.unusedVariables false
set_option linter.unusedSimpArgs false
open Go Go.RowKit Go.Proofs.YtkjkceeopkfniaaDoorW.PrintWords Go.Proofs.YtkjkceeopkfniaaDoorW.PrintLast Go.Proofs.YtkjkceeopkfniaaDoorW.PrintMore Go.Proofs.YtkjkceeopkfniaaDoor.U

theorem cut_neg (A : Option Addr) (n c : Nat) (k : Int) (hk : k < 0) (w : World) : Calls Tryd.prog 61 #[.slice A n c, .int .i64 k] w fun e w' => e = .returned (.tuple #[.slice none 0 0, .int .i64 1]) ∧ w = w' := by
  have h1 : decide (k < 0) = true := decide_eq_true hk
  go_enter Tryd.func61, Tryd.ntmps61
  go_wp2
  go_ret2
  exact ⟨rfl, rfl⟩
theorem cut_over (A : Option Addr) (n c : Nat) (k : Int) (hk : (n : Int) < k) (w : World) : Calls Tryd.prog 61 #[.slice A n c, .int .i64 k] w fun e w' => e = .returned (.tuple #[.slice none 0 0, .int .i64 1]) ∧ w = w' := by
  have h1 : decide (k < 0) = false := decide_eq_false (by omega)
  have h2 : decide ((n : Int) < k) = true := decide_eq_true hk
  go_enter Tryd.func61, Tryd.ntmps61
  go_wp2
  go_ret2
  exact ⟨rfl, rfl⟩
theorem cut_ok (A : Option Addr) (n c k : Nat) (hk : k ≤ n) (hc : n ≤ c) (w : World) : Calls Tryd.prog 61 #[.slice A n c, .int .i64 (k : Int)] w fun e w' => e = .returned (.tuple #[.slice A k k, .int .i64 0]) ∧ w = w' := by
  have h1 : decide ((k : Int) < 0) = false := decide_eq_false (by omega)
  have h2 : decide ((n : Int) < (k : Int)) = false := decide_eq_false (by omega)
  have h3 : (k : Int) ≤ (c : Int) := by omega
  have h4 : (0 : Int) ≤ (k : Int) := by omega
  go_enter Tryd.func61, Tryd.ntmps61
  go_wp2
  go_ret2
  exact ⟨rfl, rfl⟩
/-- What is told of the document's side. -/
structure CutsH (k : Nat) (a b : List S36) (kk tx : Int) : Prop where
  o : recantref08_Of.f k a tx = some (a.filter (keepE tx))
  s : recantref02_Same.f k (a.filter (keepE tx)) (a.filter (keepE tx)) = some true
  l : recantref08_Alike.f k a b = some (alikeB a b)
  c : ∀ n : Nat, kk = (n : Int) → n ≤ a.length → recantref02_Same.f k (a.take n) (a.take n) = some true
def recantlaw08_PrefixCuts.f (k : Nat) (l0 l1 : List S36) (a2 a3 : Int) : Prop := CutsH k (l0.take 65) (l1.take 65) a2 a3 ∧ recantlaw08_alive.f = some true
set_option maxHeartbeats 4000000 in
set_option maxRecDepth 100000 in
theorem recantlaw08_PrefixCuts.calls (k : Nat) (A0 : Option Addr) (c0 : Nat) (l0 : List S36) (A1 : Option Addr) (c1 : Nat) (l1 : List S36) (a2 a3 : Int) (r : Bool) (w : World) (hr0 : Kd.C k36 w A0 l0.length l0) (hc0 : l0.length ≤ c0) (hr1 : Kd.C k36 w A1 l1.length l1) (hc1 : l1.length ≤ c1) (h : recantlaw08_PrefixCuts.f k l0 l1 a2 a3 ∧ r = true) (hT : KTab w) :
    Calls Tryd.prog 14 #[.slice A0 l0.length c0, .slice A1 l1.length c1, .int .i64 a2, .int .i64 a3] w fun e w' => e = .returned (.bool r) ∧ Below w.heap.size w w' := by
  obtain ⟨⟨hH, hal⟩, rfl⟩ := h
  have hp0 : l0.length ≤ 9223372036854775807 := hr0.2.1
  have hp1 : l1.length ≤ 9223372036854775807 := hr1.2.1
  obtain ⟨n, hn⟩ : ∃ n, n = min l0.length 65 := ⟨_, rfl⟩
  obtain ⟨m, hm⟩ : ∃ m, m = min l1.length 65 := ⟨_, rfl⟩
  obtain ⟨a, ha⟩ : ∃ a, a = l0.take 65 := ⟨_, rfl⟩
  obtain ⟨b, hb⟩ : ∃ b, b = l1.take 65 := ⟨_, rfl⟩
  rw [← ha, ← hb] at hH
  have hal2 : a.length = n := by rw [ha, List.length_take]; omega
  have hbl2 : b.length = m := by rw [hb, List.length_take]; omega
  have hra : Kd.C k36 w A0 a.length a := by
    have : a = l0.take n := by rw [ha]; by_cases h : l0.length ≤ 65
                               · rw [List.take_of_length_le h, List.take_of_length_le (by omega)]
                               · rw [show n = 65 by omega]
    rw [this]; exact Kd.C_take (m := n) hr0 (by omega)
  have hrb : Kd.C k36 w A1 b.length b := by
    have : b = l1.take m := by rw [hb]; by_cases h : l1.length ≤ 65
                               · rw [List.take_of_length_le h, List.take_of_length_le (by omega)]
                               · rw [show m = 65 by omega]
    rw [this]; exact Kd.C_take (m := m) hr1 (by omega)
  have hm0 : min (l0.length : Int) 65 = (n : Int) := by omega
  have hm1 : min (l1.length : Int) 65 = (m : Int) := by omega
  have hmn : (if (65 : Int) < (l0.length : Int) then (65 : Int) else (l0.length : Int)) = (n : Int) := by split <;> omega
  have hmb : (if (65 : Int) < (l1.length : Int) then (65 : Int) else (l1.length : Int)) = (m : Int) := by split <;> omega
  have q1 : (n : Int) ≤ l0.length := by omega
  have q2 : (m : Int) ≤ l1.length := by omega
  have hn65 : a.length ≤ 65 := by omega
  have hm65 : b.length ≤ 65 := by omega
  have HOF : Hid (prefix_Of.f a a3 = some (a.filter (keepE a3))) := Lib.hid (by unfold prefix_Of.f; rw [if_pos (by omega)])
  have HAL : Hid (prefix_Alike.f a b = some (alikeB a b)) := Lib.hid (by unfold prefix_Alike.f; rw [if_pos (by omega)])
  have HRA := Lib.hid hra
  have HRB := Lib.hid hrb
  have HH := Lib.hid hH
  have HLV := Lib.hid hal
  have HT := Lib.hid hT
  clear ha hb hra hrb hH hal hT hr0 hr1
  subst hal2 hbl2
  have p1 : a.length ≤ c0 := by omega
  have p2 : (a.length : Int) ≤ (c0 : Int) := by omega
  have p3 : b.length ≤ c1 := by omega
  have p4 : (b.length : Int) ≤ (c1 : Int) := by omega
  have P1 := Lib.hid p1
  have P3 := Lib.hid p3
  have P5 := Lib.hid hn65
  clear hn hm hm65 hn65
  go_enter Tryd.func14, Tryd.ntmps14
  go_upto_region 2 with (fail)
  go_quiet (fail)
  clear hm0 hm1 hmn hmb p1 p2 p3 p4 q1 q2 hp0 hp1 hc0 hc1
  have HB0 : ∀ j, Below w.heap.size w (w.drewN j) := fun j => pw_below_drewN (Below.refl _ _) j
  by_cases hneg : a2 < 0
  · have d1 : decide (a2 < 0) = true := decide_eq_true hneg
    go_wp2_with (first
      | (go_at_call 61; refine (cut_neg _ _ _ _ hneg _).mono ?_; rintro x w2 ⟨rfl, rfl⟩)
      | (go_at_call 58; refine (prefix_Of.calls A0 c0 a a3 _ _ (Kd.C_below HRA.out (HB0 _)) P1.out HOF.out).mono ?_; rintro x w3 ⟨v3, rfl, hr3, hb3⟩; obtain ⟨A3, c3, rfl⟩ := Kd.R_slice hr3; have HR3 := Lib.hid hr3; have HB3 := Lib.hid ((HB0 _).trans hb3); clear hr3 hb3)
      | (go_at_call 63; refine (recantref08_Of.calls k A0 c0 a a3 _ _ (Kd.C_below HRA.out HB3.out) P1.out HH.out.o).mono ?_; rintro x w4 ⟨v4, rfl, hr4, hb4⟩; obtain ⟨A4, c4, rfl⟩ := Kd.R_slice hr4; have HR4 := Lib.hid hr4; have HB4 := Lib.hid (HB3.out.trans (hb4.mono HB3.out.size)); have HR34 := Lib.hid (Kd.R_below HR3.out hb4); clear hr4 hb4)
      | (go_at_call 62; refine (recantref02_Same.calls k A3 c3 _ A4 c4 _ _ _ (Kd.R_reads' HR34.out).2.2 (Kd.R_reads' HR34.out).2.1 (Kd.R_reads' HR4.out).2.2 (Kd.R_reads' HR4.out).2.1 HH.out.s).mono ?_; rintro x w5 ⟨rfl, ⟨nd5, rfl⟩⟩; have HB5 := Lib.hid (pw_below_drewN HB4.out nd5))
      | (go_at_call 55; refine (prefix_Alike.calls A0 c0 a A1 c1 b _ _ (Kd.C_below HRA.out HB5.out) P1.out (Kd.C_below HRB.out HB5.out) P3.out HAL.out).mono ?_; rintro x w6 ⟨rfl, hb6⟩; have HB6 := Lib.hid (HB5.out.trans (hb6.mono HB5.out.size)); clear hb6)
      | (go_at_call 64; refine (recantref08_Alike.calls k A0 c0 a A1 c1 b _ _ (Kd.C_below HRA.out HB6.out) P1.out (Kd.C_below HRB.out HB6.out) P3.out HH.out.l).mono ?_; rintro x w7 ⟨rfl, hb7⟩; have HB7 := Lib.hid (HB6.out.trans (hb7.mono HB6.out.size)); clear hb7)
      | (go_at_call 32; refine (recantlaw08_alive.calls true _ HLV.out (HT.out.below HB7.out)).mono ?_; rintro x w8 ⟨rfl, hb8⟩; have HB8 := Lib.hid (HB7.out.trans (hb8.mono HB7.out.size)); clear hb8))
    go_ret
    exact ⟨rfl, HB8.out⟩
  · have d1 : decide (a2 < 0) = false := decide_eq_false hneg
    by_cases hov : (a.length : Int) < a2
    · have d2 : decide ((a.length : Int) < a2) = true := decide_eq_true hov
      go_wp2_with (first
        | (go_at_call 61; refine (cut_over _ _ _ _ hov _).mono ?_; rintro x w2 ⟨rfl, rfl⟩)
        | (go_at_call 58; refine (prefix_Of.calls A0 c0 a a3 _ _ (Kd.C_below HRA.out (HB0 _)) P1.out HOF.out).mono ?_; rintro x w3 ⟨v3, rfl, hr3, hb3⟩; obtain ⟨A3, c3, rfl⟩ := Kd.R_slice hr3; have HR3 := Lib.hid hr3; have HB3 := Lib.hid ((HB0 _).trans hb3); clear hr3 hb3)
        | (go_at_call 63; refine (recantref08_Of.calls k A0 c0 a a3 _ _ (Kd.C_below HRA.out HB3.out) P1.out HH.out.o).mono ?_; rintro x w4 ⟨v4, rfl, hr4, hb4⟩; obtain ⟨A4, c4, rfl⟩ := Kd.R_slice hr4; have HR4 := Lib.hid hr4; have HB4 := Lib.hid (HB3.out.trans (hb4.mono HB3.out.size)); have HR34 := Lib.hid (Kd.R_below HR3.out hb4); clear hr4 hb4)
        | (go_at_call 62; refine (recantref02_Same.calls k A3 c3 _ A4 c4 _ _ _ (Kd.R_reads' HR34.out).2.2 (Kd.R_reads' HR34.out).2.1 (Kd.R_reads' HR4.out).2.2 (Kd.R_reads' HR4.out).2.1 HH.out.s).mono ?_; rintro x w5 ⟨rfl, ⟨nd5, rfl⟩⟩; have HB5 := Lib.hid (pw_below_drewN HB4.out nd5))
        | (go_at_call 55; refine (prefix_Alike.calls A0 c0 a A1 c1 b _ _ (Kd.C_below HRA.out HB5.out) P1.out (Kd.C_below HRB.out HB5.out) P3.out HAL.out).mono ?_; rintro x w6 ⟨rfl, hb6⟩; have HB6 := Lib.hid (HB5.out.trans (hb6.mono HB5.out.size)); clear hb6)
        | (go_at_call 64; refine (recantref08_Alike.calls k A0 c0 a A1 c1 b _ _ (Kd.C_below HRA.out HB6.out) P1.out (Kd.C_below HRB.out HB6.out) P3.out HH.out.l).mono ?_; rintro x w7 ⟨rfl, hb7⟩; have HB7 := Lib.hid (HB6.out.trans (hb7.mono HB6.out.size)); clear hb7)
        | (go_at_call 32; refine (recantlaw08_alive.calls true _ HLV.out (HT.out.below HB7.out)).mono ?_; rintro x w8 ⟨rfl, hb8⟩; have HB8 := Lib.hid (HB7.out.trans (hb8.mono HB7.out.size)); clear hb8))
      go_ret
      exact ⟨rfl, HB8.out⟩
    · have d2 : decide ((a.length : Int) < a2) = false := decide_eq_false hov
      obtain ⟨kn, rfl⟩ := Int.eq_ofNat_of_zero_le (show 0 ≤ a2 by omega)
      have hkn : kn ≤ a.length := by omega
      have hlt : (a.take kn).length = kn := by rw [List.length_take]; omega
      have HSM := Lib.hid (HH.out.c kn rfl hkn)
      have HCT : Hid (Kd.C k36 w A0 (a.take kn).length (a.take kn)) := Lib.hid (Kd.C_take (m := kn) HRA.out hkn)
      have HLT := Lib.hid hlt
      have e1 : (kn : Int) ≤ (c0 : Int) := by have := P1.out; omega
      have e2 : (0 : Int) ≤ (kn : Int) := by omega
      clear hlt
      go_wp2_with (first
        | (go_at_call 61; refine (cut_ok A0 a.length c0 kn hkn P1.out _).mono ?_; rintro x w2 ⟨rfl, rfl⟩)
        | (go_at_call 58; refine (prefix_Of.calls A0 c0 a a3 _ _ (Kd.C_below HRA.out (HB0 _)) P1.out HOF.out).mono ?_; rintro x w3 ⟨v3, rfl, hr3, hb3⟩; obtain ⟨A3, c3, rfl⟩ := Kd.R_slice hr3; have HR3 := Lib.hid hr3; have HB3 := Lib.hid ((HB0 _).trans hb3); clear hr3 hb3)
        | (go_at_call 63; refine (recantref08_Of.calls k A0 c0 a a3 _ _ (Kd.C_below HRA.out HB3.out) P1.out HH.out.o).mono ?_; rintro x w4 ⟨v4, rfl, hr4, hb4⟩; obtain ⟨A4, c4, rfl⟩ := Kd.R_slice hr4; have HR4 := Lib.hid hr4; have HB4 := Lib.hid (HB3.out.trans (hb4.mono HB3.out.size)); have HR34 := Lib.hid (Kd.R_below HR3.out hb4); clear hr4 hb4)
        | (go_at_call 55; refine (prefix_Alike.calls A0 c0 a A1 c1 b _ _ (Kd.C_below HRA.out HB5.out) P1.out (Kd.C_below HRB.out HB5.out) P3.out HAL.out).mono ?_; rintro x w6 ⟨rfl, hb6⟩; have HB6 := Lib.hid (HB5.out.trans (hb6.mono HB5.out.size)); clear hb6)
        | (go_at_call 64; refine (recantref08_Alike.calls k A0 c0 a A1 c1 b _ _ (Kd.C_below HRA.out HB6.out) P1.out (Kd.C_below HRB.out HB6.out) P3.out HH.out.l).mono ?_; rintro x w7 ⟨rfl, hb7⟩; have HB7 := Lib.hid (HB6.out.trans (hb7.mono HB6.out.size)); clear hb7)
        | (go_at_call 32; refine (recantlaw08_alive.calls true _ HLV.out (HT.out.below HB7.out)).mono ?_; rintro x w8 ⟨rfl, hb8⟩; have HB8 := Lib.hid (HB7.out.trans (hb8.mono HB7.out.size)); clear hb8)
        | (go_at_call 62; first
            | (have HX := HB8; have hs := recantref02_Same.calls k A0 kn _ A0 c0 _ true _ (Kd.C_below HCT.out HB8.out) (by rw [HLT.out]; exact Nat.le_refl _) (Kd.C_below HCT.out HB8.out) (by rw [HLT.out]; have := P1.out; omega) HSM.out; rw [HLT.out] at hs; refine hs.mono ?_; rintro x w9 ⟨rfl, ⟨nd9, rfl⟩⟩; have HB9 := Lib.hid (pw_below_drewN HB8.out nd9))
            | (refine (recantref02_Same.calls k A3 c3 _ A4 c4 _ _ _ (Kd.R_reads' HR34.out).2.2 (Kd.R_reads' HR34.out).2.1 (Kd.R_reads' HR4.out).2.2 (Kd.R_reads' HR4.out).2.1 HH.out.s).mono ?_; rintro x w5 ⟨rfl, ⟨nd5, rfl⟩⟩; have HB5 := Lib.hid (pw_below_drewN HB4.out nd5))))
      go_ret
      exact ⟨rfl, HB9.out⟩
end Go.Proofs.YtkjkceeopkfniaaDoor.P

-- Written by gprint.py, a program of this session's: the kit's print with given functions beside. Not trusted: Lean checks it.
import Derived.Test.YthkpocgbinmeiaaDoorP0
import Derived.Test.YthkpocgbinmeiaaDoorP1
import Derived.Test.YthkpocgbinmeiaaDoorGRight
import Derived.Test.YthkpocgbinmeiaaDoorGTParse
import Derived.Test.YthkpocgbinmeiaaDoorGTPrint
namespace Go.Proofs.YthkpocgbinmeiaaDoor.P
open Go.RowKit Go.Proofs.YthkpocgbinmeiaaDoorW.PrintWords Go.Proofs.YthkpocgbinmeiaaDoorW.PrintLast Go.Proofs.YthkpocgbinmeiaaDoorW.PrintMore
attribute [local go_sem] max2_int min2_int max_two min_two max_three min_three max_four min_four   -- for this text's walks alone
set_option linter.unusedVariables false
set_option linter.unusedSimpArgs false

attribute [local go_sem high] eqA34
/-! ### recantlaw02_alive: function 29 -/
def recantlaw02_alive.f  : Option (Bool) := (text_Parse.f (⟨#[119, 114, 105, 116, 101, 32, 51, 32, 49, 32, 45, 53, 32, 35, 32, 99, 10, 10]⟩ : ByteArray)).bind fun bt126 => (if bt126.2.2 = 0 then (if (bt126.1.length : Int) = 1 then (if 0 < (bt126.1.length : Int) then (if (((rd_T34 bt126.1 0).f0) == 4 && (((rd_T34 bt126.1 0).f1) == 3 && (((rd_T34 bt126.1 0).f2) == 1 && (((rd_T34 bt126.1 0).f3) == (-5))))) = true then ((text_Right.f bt126.1).bind fun t132 => (some t132)) else (some false)) else (none)) else (some false)) else (some false))
set_option maxHeartbeats 8000000 in
set_option maxRecDepth 100000 in
theorem recantlaw02_alive.calls  (r : Bool) (w : World) (h : recantlaw02_alive.f  = some r) (hT : BTab w) :
    Calls Tryd.prog 29 #[] w fun e w' => e = .returned (.bool r) ∧ Below w.heap.size w w' := by
  have HTAB := Aside0.mk hT
  clear hT
  have hu34 := Tryd.underlying34
  have HB := Aside0.mk (Below.refl w.heap.size w)
  have H : ((text_Parse.f (⟨#[119, 114, 105, 116, 101, 32, 51, 32, 49, 32, 45, 53, 32, 35, 32, 99, 10, 10]⟩ : ByteArray)).bind fun bt126 => (if bt126.2.2 = 0 then (if (bt126.1.length : Int) = 1 then (if 0 < (bt126.1.length : Int) then (if (((rd_T34 bt126.1 0).f0) == 4 && (((rd_T34 bt126.1 0).f1) == 3 && (((rd_T34 bt126.1 0).f2) == 1 && (((rd_T34 bt126.1 0).f3) == (-5))))) = true then ((text_Right.f bt126.1).bind fun t132 => (some t132)) else (some false)) else (none)) else (some false)) else (some false))) = some r := h
  clear h
  replace H := Option.bind_eq_some_iff.mp H
  obtain ⟨⟨t126, t127, t128⟩, A10, H⟩ := H
  replace H : (if t128 = 0 then (if (t126.length : Int) = 1 then (if 0 < (t126.length : Int) then (if (((rd_T34 t126 0).f0) == 4 && (((rd_T34 t126 0).f1) == 3 && (((rd_T34 t126 0).f2) == 1 && (((rd_T34 t126 0).f3) == (-5))))) = true then ((text_Right.f t126).bind fun t132 => (some t132)) else (some false)) else (none)) else (some false)) else (some false)) = some r := H
  have A1 := Aside0.mk A10
  clear A10
  by_cases c2 : t128 = 0
  · rw [if_pos c2] at H
    have c2b0 : (t128 == 0) = true := beq_iff_eq.mpr c2
    have c2b1 : (t128 != 0) = false := bne_eq_false_iff_eq.mpr c2
    clear c2
    by_cases c3 : (t126.length : Int) = 1
    · rw [if_pos c3] at H
      have c3b0 : ((t126.length : Int) == 1) = true := beq_iff_eq.mpr c3
      have c3b1 : ((t126.length : Int) != 1) = false := bne_eq_false_iff_eq.mpr c3
      clear c3
      by_cases c4 : 0 < (t126.length : Int)
      · rw [if_pos c4] at H
        have c4b0 : decide (0 < (t126.length : Int)) = true := decide_eq_true c4
        have c4b1 : decide (0 < t126.length) = true := decide_eq_true (by omega)
        clear c4
        by_cases c5 : (((rd_T34 t126 0).f0) == 4 && (((rd_T34 t126 0).f1) == 3 && (((rd_T34 t126 0).f2) == 1 && (((rd_T34 t126 0).f3) == (-5))))) = true
        · rw [if_pos c5] at H
          have c5b0 : (((rd_T34 t126 0).f0) == 4 && (((rd_T34 t126 0).f1) == 3 && (((rd_T34 t126 0).f2) == 1 && (((rd_T34 t126 0).f3) == (-5))))) = true := c5
          (try (have c5b1 : decide (((rd_T34 t126 0).f0) = 4 && (((rd_T34 t126 0).f1) == 3 && (((rd_T34 t126 0).f2) == 1 && (((rd_T34 t126 0).f3) == (-5))))) = true := by simpa using c5))
          (try (have c5b2 : (((rd_T34 t126 0).f0) == 4 && (((rd_T34 t126 0).f1) == 3 && (((rd_T34 t126 0).f2) == 1 && (((rd_T34 t126 0).f3) == (-5))))) = true := by simpa using c5))
          clear c5
          replace H := Option.bind_eq_some_iff.mp H
          obtain ⟨t132, A60, H⟩ := H
          replace H : (some t132) = some r := H
          have A6 := Aside0.mk A60
          clear A60
          obtain rfl := Option.some.inj H
          go_enter Tryd.func29, Tryd.ntmps29
          go_wp2_with (first | ((with_reducible refine gate_callee (f := 27) rfl ?_); refine goesL_ (some 5) rfl rfl Tryd.func27 (by kernel_rfl) rfl #[.string (⟨#[119, 114, 105, 116, 101, 32, 51, 32, 49, 32, 45, 53, 32, 35, 32, 99, 10, 10]⟩ : ByteArray)] rfl (by (try simp only [List.map_toArray, List.map_cons, List.map_nil]); first | done | rfl | (simp only [List.length_drop, List.length_take]; rfl)) ?_; (with_reducible refine (text_Parse.calls (⟨#[119, 114, 105, 116, 101, 32, 51, 32, 49, 32, 45, 53, 32, 35, 32, 99, 10, 10]⟩ : ByteArray) t126 t127 t128 _ A1.out (BTab.below HTAB.out (by repeat (first | (with_reducible first | exact HB.out | apply below_alloc | apply pw_below_drewN | apply below_drew1) | exact HB.out)))).mono ?_); rintro e w7 ⟨v129, rfl, ho0, hb⟩; refine ⟨_, rfl, ?_⟩; have n0_ := Aside0.mk (Kd.R_lower ho0 (below_size (by repeat (first | (with_reducible first | exact HB.out | apply below_alloc | apply pw_below_drewN | apply below_drew1) | exact HB.out)))); have n1_ := Aside0.mk (below_step (by repeat (first | (with_reducible first | exact HB.out | apply below_alloc | apply pw_below_drewN | apply below_drew1) | exact HB.out)) hb); clear HB; have HO130 := n0_; have HB := n1_; clear n0_ n1_; (try clear hb); (try clear hb2); (try clear hk); (try clear hi); (try clear ho0); obtain ⟨Ao8, co8, eo8⟩ := Kd.R_slice HO130.out; subst eo8; have p131 : 0 ≤ (0 : Int) := (by omega); have q131 : 0 < (t126.length : Int) := of_decide_eq_true (by first | (with_reducible assumption) | assumption); obtain ⟨ad131, e131, hx131_0, hx131_1, hx131_2, hx131_3⟩ := at_T34 (Kd.R_reads' HO130.out).2.2 0 p131 q131; cases e131; have qi131 : (0 < t126.length) = True := eq_true (by omega); (try rw [show ((0 : Int)).toNat = 0 from rfl] at hx131_0); (try rw [show 0 * 4 = 0 from rfl] at hx131_0); (try rw [Addr.add_zero'] at hx131_0); (try rw [show ((0 : Int)).toNat = 0 from rfl] at hx131_1); (try rw [show 0 * 4 = 0 from rfl] at hx131_1); (try rw [Addr.add_zero'] at hx131_1); (try rw [show ((0 : Int)).toNat = 0 from rfl] at hx131_2); (try rw [show 0 * 4 = 0 from rfl] at hx131_2); (try rw [Addr.add_zero'] at hx131_2); (try rw [show ((0 : Int)).toNat = 0 from rfl] at hx131_3); (try rw [show 0 * 4 = 0 from rfl] at hx131_3); (try rw [Addr.add_zero'] at hx131_3); replace p131 := eq_true p131; replace q131 := eq_true q131) | (go_at_call 31; (with_reducible refine (text_Right.calls _ _ t126 t132 _ ?side1 ?side2 A6.out (BTab.below HTAB.out (by repeat (first | (with_reducible first | exact HB.out | apply below_alloc | apply pw_below_drewN | apply below_drew1) | exact HB.out)))).mono ?_); (case side1 => repeat (first | exact (Kd.R_reads' HO130.out).2.2 | (with_reducible refine Kd.C_alloc ?_ _) | (with_reducible refine Kd.C_drewN ?_ _) | (with_reducible refine Kd.C_drew ?_))); (case side2 => exact (Kd.R_reads' HO130.out).2.1); rintro e w9 ⟨rfl, hb⟩; have n0_ := Aside0.mk (Kd.R_below (by (with_reducible repeat (first | apply Kd.R_alloc | apply Kd.R_drewN | apply Kd.R_drew)); exact HO130.out) hb); have n1_ := Aside0.mk (below_step (by repeat (first | (with_reducible first | exact HB.out | apply below_alloc | apply pw_below_drewN | apply below_drew1) | exact HB.out)) hb); clear HO130; clear HB; have HO130 := n0_; have HB := n1_; clear n0_ n1_; (try clear hb); (try clear hb2); (try clear hk); (try clear hi)))
          go_ret
          exact ⟨by first | rfl | (simp [errW_none, errW_some] <;> rfl) | (simp [*, errW_none, errW_some] <;> rfl), by repeat (first | (with_reducible first | exact HB.out | apply below_alloc | apply pw_below_drewN | apply below_drew1) | exact HB.out)⟩
        · rw [if_neg c5] at H
          have c5b0 : (((rd_T34 t126 0).f0) == 4 && (((rd_T34 t126 0).f1) == 3 && (((rd_T34 t126 0).f2) == 1 && (((rd_T34 t126 0).f3) == (-5))))) = false := by simpa using c5
          (try (have c5b1 : decide (((rd_T34 t126 0).f0) = 4 && (((rd_T34 t126 0).f1) == 3 && (((rd_T34 t126 0).f2) == 1 && (((rd_T34 t126 0).f3) == (-5))))) = false := by simpa using c5))
          (try (have c5b2 : (((rd_T34 t126 0).f0) == 4 && (((rd_T34 t126 0).f1) == 3 && (((rd_T34 t126 0).f2) == 1 && (((rd_T34 t126 0).f3) == (-5))))) = false := by simpa using c5))
          (try (have c5b3 : ¬ (((rd_T34 t126 0).f0) = 4 && (((rd_T34 t126 0).f1) == 3 && (((rd_T34 t126 0).f2) == 1 && (((rd_T34 t126 0).f3) == (-5))))) := by simpa using c5))
          clear c5
          obtain rfl := Option.some.inj H
          go_enter Tryd.func29, Tryd.ntmps29
          go_wp2_with (first | ((with_reducible refine gate_callee (f := 27) rfl ?_); refine goesL_ (some 5) rfl rfl Tryd.func27 (by kernel_rfl) rfl #[.string (⟨#[119, 114, 105, 116, 101, 32, 51, 32, 49, 32, 45, 53, 32, 35, 32, 99, 10, 10]⟩ : ByteArray)] rfl (by (try simp only [List.map_toArray, List.map_cons, List.map_nil]); first | done | rfl | (simp only [List.length_drop, List.length_take]; rfl)) ?_; (with_reducible refine (text_Parse.calls (⟨#[119, 114, 105, 116, 101, 32, 51, 32, 49, 32, 45, 53, 32, 35, 32, 99, 10, 10]⟩ : ByteArray) t126 t127 t128 _ A1.out (BTab.below HTAB.out (by repeat (first | (with_reducible first | exact HB.out | apply below_alloc | apply pw_below_drewN | apply below_drew1) | exact HB.out)))).mono ?_); rintro e w10 ⟨v129, rfl, ho0, hb⟩; refine ⟨_, rfl, ?_⟩; have n0_ := Aside0.mk (Kd.R_lower ho0 (below_size (by repeat (first | (with_reducible first | exact HB.out | apply below_alloc | apply pw_below_drewN | apply below_drew1) | exact HB.out)))); have n1_ := Aside0.mk (below_step (by repeat (first | (with_reducible first | exact HB.out | apply below_alloc | apply pw_below_drewN | apply below_drew1) | exact HB.out)) hb); clear HB; have HO130 := n0_; have HB := n1_; clear n0_ n1_; (try clear hb); (try clear hb2); (try clear hk); (try clear hi); (try clear ho0); obtain ⟨Ao11, co11, eo11⟩ := Kd.R_slice HO130.out; subst eo11; have p131 : 0 ≤ (0 : Int) := (by omega); have q131 : 0 < (t126.length : Int) := of_decide_eq_true (by first | (with_reducible assumption) | assumption); obtain ⟨ad131, e131, hx131_0, hx131_1, hx131_2, hx131_3⟩ := at_T34 (Kd.R_reads' HO130.out).2.2 0 p131 q131; cases e131; have qi131 : (0 < t126.length) = True := eq_true (by omega); (try rw [show ((0 : Int)).toNat = 0 from rfl] at hx131_0); (try rw [show 0 * 4 = 0 from rfl] at hx131_0); (try rw [Addr.add_zero'] at hx131_0); (try rw [show ((0 : Int)).toNat = 0 from rfl] at hx131_1); (try rw [show 0 * 4 = 0 from rfl] at hx131_1); (try rw [Addr.add_zero'] at hx131_1); (try rw [show ((0 : Int)).toNat = 0 from rfl] at hx131_2); (try rw [show 0 * 4 = 0 from rfl] at hx131_2); (try rw [Addr.add_zero'] at hx131_2); (try rw [show ((0 : Int)).toNat = 0 from rfl] at hx131_3); (try rw [show 0 * 4 = 0 from rfl] at hx131_3); (try rw [Addr.add_zero'] at hx131_3); replace p131 := eq_true p131; replace q131 := eq_true q131))
          go_ret
          exact ⟨by first | rfl | (simp [errW_none, errW_some] <;> rfl) | (simp [*, errW_none, errW_some] <;> rfl), by repeat (first | (with_reducible first | exact HB.out | apply below_alloc | apply pw_below_drewN | apply below_drew1) | exact HB.out)⟩
      · rw [if_neg c4] at H
        exact absurd H (by simp)
    · rw [if_neg c3] at H
      have c3b0 : ((t126.length : Int) == 1) = false := beq_eq_false_iff_ne.mpr c3
      have c3b1 : ((t126.length : Int) != 1) = true := bne_iff_ne.mpr c3
      obtain rfl := Option.some.inj H
      go_enter Tryd.func29, Tryd.ntmps29
      go_wp2_with (first | ((with_reducible refine gate_callee (f := 27) rfl ?_); refine goesL_ (some 5) rfl rfl Tryd.func27 (by kernel_rfl) rfl #[.string (⟨#[119, 114, 105, 116, 101, 32, 51, 32, 49, 32, 45, 53, 32, 35, 32, 99, 10, 10]⟩ : ByteArray)] rfl (by (try simp only [List.map_toArray, List.map_cons, List.map_nil]); first | done | rfl | (simp only [List.length_drop, List.length_take]; rfl)) ?_; (with_reducible refine (text_Parse.calls (⟨#[119, 114, 105, 116, 101, 32, 51, 32, 49, 32, 45, 53, 32, 35, 32, 99, 10, 10]⟩ : ByteArray) t126 t127 t128 _ A1.out (BTab.below HTAB.out (by repeat (first | (with_reducible first | exact HB.out | apply below_alloc | apply pw_below_drewN | apply below_drew1) | exact HB.out)))).mono ?_); rintro e w12 ⟨v129, rfl, ho0, hb⟩; refine ⟨_, rfl, ?_⟩; have n0_ := Aside0.mk (Kd.R_lower ho0 (below_size (by repeat (first | (with_reducible first | exact HB.out | apply below_alloc | apply pw_below_drewN | apply below_drew1) | exact HB.out)))); have n1_ := Aside0.mk (below_step (by repeat (first | (with_reducible first | exact HB.out | apply below_alloc | apply pw_below_drewN | apply below_drew1) | exact HB.out)) hb); clear HB; have HO130 := n0_; have HB := n1_; clear n0_ n1_; (try clear hb); (try clear hb2); (try clear hk); (try clear hi); (try clear ho0); obtain ⟨Ao13, co13, eo13⟩ := Kd.R_slice HO130.out; subst eo13))
      go_ret
      exact ⟨by first | rfl | (simp [errW_none, errW_some] <;> rfl) | (simp [*, errW_none, errW_some] <;> rfl), by repeat (first | (with_reducible first | exact HB.out | apply below_alloc | apply pw_below_drewN | apply below_drew1) | exact HB.out)⟩
  · rw [if_neg c2] at H
    have c2b0 : (t128 == 0) = false := beq_eq_false_iff_ne.mpr c2
    have c2b1 : (t128 != 0) = true := bne_iff_ne.mpr c2
    obtain rfl := Option.some.inj H
    go_enter Tryd.func29, Tryd.ntmps29
    go_wp2_with (first | ((with_reducible refine gate_callee (f := 27) rfl ?_); refine goesL_ (some 5) rfl rfl Tryd.func27 (by kernel_rfl) rfl #[.string (⟨#[119, 114, 105, 116, 101, 32, 51, 32, 49, 32, 45, 53, 32, 35, 32, 99, 10, 10]⟩ : ByteArray)] rfl (by (try simp only [List.map_toArray, List.map_cons, List.map_nil]); first | done | rfl | (simp only [List.length_drop, List.length_take]; rfl)) ?_; (with_reducible refine (text_Parse.calls (⟨#[119, 114, 105, 116, 101, 32, 51, 32, 49, 32, 45, 53, 32, 35, 32, 99, 10, 10]⟩ : ByteArray) t126 t127 t128 _ A1.out (BTab.below HTAB.out (by repeat (first | (with_reducible first | exact HB.out | apply below_alloc | apply pw_below_drewN | apply below_drew1) | exact HB.out)))).mono ?_); rintro e w14 ⟨v129, rfl, ho0, hb⟩; refine ⟨_, rfl, ?_⟩; have n0_ := Aside0.mk (Kd.R_lower ho0 (below_size (by repeat (first | (with_reducible first | exact HB.out | apply below_alloc | apply pw_below_drewN | apply below_drew1) | exact HB.out)))); have n1_ := Aside0.mk (below_step (by repeat (first | (with_reducible first | exact HB.out | apply below_alloc | apply pw_below_drewN | apply below_drew1) | exact HB.out)) hb); clear HB; have HO130 := n0_; have HB := n1_; clear n0_ n1_; (try clear hb); (try clear hb2); (try clear hk); (try clear hi); (try clear ho0)))
    go_ret
    exact ⟨by first | rfl | (simp [errW_none, errW_some] <;> rfl) | (simp [*, errW_none, errW_some] <;> rfl), by repeat (first | (with_reducible first | exact HB.out | apply below_alloc | apply pw_below_drewN | apply below_drew1) | exact HB.out)⟩

/-! ### recantref02_Same: function 30 -/
def recantref02_Same.l0 : Nat → List (S34) → List (S34) → Int → Int → Option (Bool)
  | 0, _, _, _, _ => none
  | k + 1, x0, x1, x12, x13 => if x13 < x12 then (if 0 ≤ x13 then (if x13 < (x0.length : Int) then (if x13 < (x1.length : Int) then (if (!(((rd_T34 x0 x13).f0) == ((rd_T34 x1 x13).f0)) || (!(((rd_T34 x0 x13).f1) == ((rd_T34 x1 x13).f1)) || (!(((rd_T34 x0 x13).f2) == ((rd_T34 x1 x13).f2)) || (!(((rd_T34 x0 x13).f3) == ((rd_T34 x1 x13).f3)))))) = true then (some false) else (recantref02_Same.l0 k x0 x1 x12 (wrap64 (x13 + 1)))) else (none)) else (none)) else (none)) else (some true)
def recantref02_Same.f (k : Nat) (l0 : List (S34)) (l1 : List (S34)) : Option (Bool) := if (l0.length : Int) = (l1.length : Int) then (recantref02_Same.l0 k l0 l1 (l0.length : Int) 0) else (some false)
theorem recantref02_Same.mono_l : ∀ k, (∀ y0 y1 y2 y3, LeO (recantref02_Same.l0 k y0 y1 y2 y3) (recantref02_Same.l0 (k + 1) y0 y1 y2 y3))
  | 0 => fun _ _ _ _ r h => by simp [recantref02_Same.l0] at h
  | k + 1 => by
    have ih0 := recantref02_Same.mono_l k
    · intro y0 y1 y2 y3
      unfold recantref02_Same.l0
      repeat' first
      | (with_reducible exact ih0 _ _ _ _)
      | (with_reducible exact LeO.refl _)
      | (with_reducible exact LeO.none _)
      | (with_reducible refine LeO.ite ?_ ?_)
      | (with_reducible refine LeO.bind ?_ (fun _ => ?_))
      | exact ih0 _ _ _ _
      | exact LeO.none _
      | refine LeO.ite ?_ ?_
      | refine LeO.bind ?_ (fun _ => ?_)
theorem recantref02_Same.mono : ∀ a0 a1 k, LeO (recantref02_Same.f k a0 a1) (recantref02_Same.f (k + 1) a0 a1) := by
  intro a0 a1 k
  have ih0 := recantref02_Same.mono_l k
  unfold recantref02_Same.f
  repeat' first
      | (with_reducible exact ih0 _ _ _ _)
      | (with_reducible exact LeO.refl _)
      | (with_reducible exact LeO.none _)
      | (with_reducible refine LeO.ite ?_ ?_)
      | (with_reducible refine LeO.bind ?_ (fun _ => ?_))
      | exact ih0 _ _ _ _
      | exact LeO.none _
      | refine LeO.ite ?_ ?_
      | refine LeO.bind ?_ (fun _ => ?_)
set_option maxHeartbeats 8000000 in
set_option maxRecDepth 100000 in
theorem recantref02_Same.calls (k : Nat) (A0 : Option Addr) (c0 : Nat) (l0 : List (S34)) (A1 : Option Addr) (c1 : Nat) (l1 : List (S34)) (r : Bool) (w : World) (hr0 : Kd.C k34 w A0 l0.length l0) (hc0 : l0.length ≤ c0) (hr1 : Kd.C k34 w A1 l1.length l1) (hc1 : l1.length ≤ c1) (h : recantref02_Same.f k l0 l1 = some r) :
    Calls Tryd.prog 30 #[.slice A0 l0.length c0, .slice A1 l1.length c1] w fun e w' => e = .returned (.bool r) ∧ Drawn0 w w' := by
  have hu34 := Tryd.underlying34
  have HR0 := Aside0.mk hr0
  have HC0 := Aside0.mk hc0
  clear hr0 hc0
  have HR1 := Aside0.mk hr1
  have HC1 := Aside0.mk hc1
  clear hr1 hc1
  have H : (if (l0.length : Int) = (l1.length : Int) then (recantref02_Same.l0 k l0 l1 (l0.length : Int) 0) else (some false)) = some r := h
  clear h
  by_cases c3 : (l0.length : Int) = (l1.length : Int)
  · rw [if_pos c3] at H
    have c3b0 : ((l0.length : Int) == (l1.length : Int)) = true := beq_iff_eq.mpr c3
    have c3b1 : ((l0.length : Int) != (l1.length : Int)) = false := bne_eq_false_iff_eq.mpr c3
    have c3b2 : (l0.length == l1.length) = true := by first | simpa using c3 | (simp at c3 ⊢; omega)
    clear c3
    have H' := Aside0.mk H
    clear H
    go_enter Tryd.func30, Tryd.ntmps30
    go_wp2
    repeat (go_quiet (fail); try go_wp2)
    go_loopg [13] k (fun kq v13 w' => ∃ (x13_1 : Int), v13 = .int .i64 x13_1 ∧ Aside0 (recantref02_Same.l0 kq l0 l1 (l0.length : Int) x13_1 = some r) ∧ Aside0 (kq ≤ k) ∧ Drawn0 w w')
    case atStart => exact ⟨(0), (by first | rfl | (simp; done) | (simp [*]; done)), H', ⟨Nat.le_refl _⟩, by repeat (first | exact Drawn0.refl _ | apply Drawn0.step)⟩
    case round =>
      clear H'
      try clear c1
      try clear p2
      try clear c3
      try clear c3b0
      try clear c3b1
      try clear c3b2
      obtain ⟨x13_1, rfl, HA, HK1, ⟨m1, rfl⟩⟩ := hrel
      cases gk with
      | zero => exact absurd HA.out (by simp [recantref02_Same.l0])
      | succ k1 =>
        have H := HA.out
        clear HA
        simp only [recantref02_Same.l0] at H
        by_cases c4 : x13_1 < (l0.length : Int)
        · rw [if_pos c4] at H
          have c4b0 : decide (x13_1 < (l0.length : Int)) = true := decide_eq_true c4
          clear c4
          by_cases c5 : 0 ≤ x13_1
          · rw [if_pos c5] at H
            have c5b0 : decide (0 ≤ x13_1) = true := decide_eq_true c5
            clear c5
            by_cases c6 : x13_1 < (l0.length : Int)
            · rw [if_pos c6] at H
              have c6b0 : decide (x13_1 < (l0.length : Int)) = true := decide_eq_true c6
              clear c6
              by_cases c7 : x13_1 < (l1.length : Int)
              · rw [if_pos c7] at H
                have c7b0 : decide (x13_1 < (l1.length : Int)) = true := decide_eq_true c7
                clear c7
                by_cases c8 : (!(((rd_T34 l0 x13_1).f0) == ((rd_T34 l1 x13_1).f0)) || (!(((rd_T34 l0 x13_1).f1) == ((rd_T34 l1 x13_1).f1)) || (!(((rd_T34 l0 x13_1).f2) == ((rd_T34 l1 x13_1).f2)) || (!(((rd_T34 l0 x13_1).f3) == ((rd_T34 l1 x13_1).f3)))))) = true
                · rw [if_pos c8] at H
                  have c8b0 : (!(((rd_T34 l0 x13_1).f0) == ((rd_T34 l1 x13_1).f0)) || (!(((rd_T34 l0 x13_1).f1) == ((rd_T34 l1 x13_1).f1)) || (!(((rd_T34 l0 x13_1).f2) == ((rd_T34 l1 x13_1).f2)) || (!(((rd_T34 l0 x13_1).f3) == ((rd_T34 l1 x13_1).f3)))))) = true := c8
                  clear c8
                  obtain rfl := Option.some.inj H
                  have p133 : 0 ≤ (x13_1 : Int) := of_decide_eq_true (by first | (with_reducible assumption) | assumption)
                  have q133 : x13_1 < (l0.length : Int) := of_decide_eq_true (by first | (with_reducible assumption) | assumption)
                  obtain ⟨ad133, e133, hx133_0, hx133_1, hx133_2, hx133_3⟩ := at_T34 HR0.out x13_1 p133 q133
                  cases e133
                  replace p133 := eq_true p133
                  replace q133 := eq_true q133
                  have p134 : 0 ≤ (x13_1 : Int) := of_decide_eq_true (by first | (with_reducible assumption) | assumption)
                  have q134 : x13_1 < (l1.length : Int) := of_decide_eq_true (by first | (with_reducible assumption) | assumption)
                  obtain ⟨ad134, e134, hx134_0, hx134_1, hx134_2, hx134_3⟩ := at_T34 HR1.out x13_1 p134 q134
                  cases e134
                  replace p134 := eq_true p134
                  replace q134 := eq_true q134
                  go_wp2
                  repeat (go_quiet (fail); try go_wp2)
                  go_ret
                  exact ⟨by first | rfl | (simp; done) | (simp [*]; done), by repeat (first | exact Drawn0.refl _ | apply Drawn0.step)⟩
                · rw [if_neg c8] at H
                  have c8b0 : (!(((rd_T34 l0 x13_1).f0) == ((rd_T34 l1 x13_1).f0)) || (!(((rd_T34 l0 x13_1).f1) == ((rd_T34 l1 x13_1).f1)) || (!(((rd_T34 l0 x13_1).f2) == ((rd_T34 l1 x13_1).f2)) || (!(((rd_T34 l0 x13_1).f3) == ((rd_T34 l1 x13_1).f3)))))) = false := by simpa using c8
                  clear c8
                  have H' := Aside0.mk H
                  clear H
                  have p133 : 0 ≤ (x13_1 : Int) := of_decide_eq_true (by first | (with_reducible assumption) | assumption)
                  have q133 : x13_1 < (l0.length : Int) := of_decide_eq_true (by first | (with_reducible assumption) | assumption)
                  obtain ⟨ad133, e133, hx133_0, hx133_1, hx133_2, hx133_3⟩ := at_T34 HR0.out x13_1 p133 q133
                  cases e133
                  replace p133 := eq_true p133
                  replace q133 := eq_true q133
                  have p134 : 0 ≤ (x13_1 : Int) := of_decide_eq_true (by first | (with_reducible assumption) | assumption)
                  have q134 : x13_1 < (l1.length : Int) := of_decide_eq_true (by first | (with_reducible assumption) | assumption)
                  obtain ⟨ad134, e134, hx134_0, hx134_1, hx134_2, hx134_3⟩ := at_T34 HR1.out x13_1 p134 q134
                  cases e134
                  replace p134 := eq_true p134
                  replace q134 := eq_true q134
                  go_wp2
                  repeat (go_quiet (fail); try go_wp2)
                  go_roundg k1
                  case measure => have := HK1.out; omega
                  case rel => exact ⟨(wrap64 (x13_1 + 1)), (by first | rfl | (simp; done) | (simp [*]; done)), H', ⟨by have := HK1.out; omega⟩, by repeat (first | exact Drawn0.refl _ | apply Drawn0.step)⟩
              · rw [if_neg c7] at H
                exact absurd H (by simp)
            · rw [if_neg c6] at H
              exact absurd H (by simp)
          · rw [if_neg c5] at H
            exact absurd H (by simp)
        · rw [if_neg c4] at H
          have c4b0 : decide (x13_1 < (l0.length : Int)) = false := decide_eq_false c4
          clear c4
          obtain rfl := Option.some.inj H
          go_wp2
          repeat (go_quiet (fail); try go_wp2)
          go_ret
          exact ⟨by first | rfl | (simp; done) | (simp [*]; done), by repeat (first | exact Drawn0.refl _ | apply Drawn0.step)⟩
  · rw [if_neg c3] at H
    have c3b0 : ((l0.length : Int) == (l1.length : Int)) = false := beq_eq_false_iff_ne.mpr c3
    have c3b1 : ((l0.length : Int) != (l1.length : Int)) = true := bne_iff_ne.mpr c3
    have c3b2 : (l0.length == l1.length) = false := by first | simpa using c3 | (simp at c3 ⊢; omega)
    obtain rfl := Option.some.inj H
    go_enter Tryd.func30, Tryd.ntmps30
    go_wp2
    repeat (go_quiet (fail); try go_wp2)
    go_ret
    exact ⟨by first | rfl | (simp; done) | (simp [*]; done), by repeat (first | exact Drawn0.refl _ | apply Drawn0.step)⟩

end Go.Proofs.YthkpocgbinmeiaaDoor.P

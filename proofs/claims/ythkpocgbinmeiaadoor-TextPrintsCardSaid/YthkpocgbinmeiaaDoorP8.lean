-- Written by gprint.py, a program of this session's: the kit's print with given functions beside. Not trusted: Lean checks it.
import Derived.Test.YthkpocgbinmeiaaDoorP0
import Derived.Test.YthkpocgbinmeiaaDoorP1
import Derived.Test.YthkpocgbinmeiaaDoorP2
namespace Go.Proofs.YthkpocgbinmeiaaDoor.P
open Go.RowKit Go.Proofs.YthkpocgbinmeiaaDoorW.PrintWords Go.Proofs.YthkpocgbinmeiaaDoorW.PrintLast Go.Proofs.YthkpocgbinmeiaaDoorW.PrintMore
attribute [local go_sem] max2_int min2_int max_two min_two max_three min_three max_four min_four   -- for this text's walks alone
set_option linter.unusedVariables false
set_option linter.unusedSimpArgs false

attribute [local go_sem high] eqA34
/-! ### api_Event: function 78 -/
def api_Event.l0 : Nat → List (S34) → List (S34) → Int → Int → Option (Bool)
  | 0, _, _, _, _ => none
  | k + 1, x0, x1, x12, x13 => if x13 < x12 then (if 0 ≤ x13 then (if x13 < (x0.length : Int) then (if x13 < (x1.length : Int) then (if (!(((rd_T34 x0 x13).f0) == ((rd_T34 x1 x13).f0)) || (!(((rd_T34 x0 x13).f1) == ((rd_T34 x1 x13).f1)) || (!(((rd_T34 x0 x13).f2) == ((rd_T34 x1 x13).f2)) || (!(((rd_T34 x0 x13).f3) == ((rd_T34 x1 x13).f3)))))) = true then (some false) else (api_Event.l0 k x0 x1 x12 (wrap64 (x13 + 1)))) else (none)) else (none)) else (none)) else (some true)
def api_Event.f (k : Nat) (l0 : List (S34)) (l1 : List (S34)) : Option (Bool) := if (l0.length : Int) = (l1.length : Int) then (api_Event.l0 k l0 l1 (l0.length : Int) 0) else (some false)
theorem api_Event.mono_l : ∀ k, (∀ y0 y1 y2 y3, LeO (api_Event.l0 k y0 y1 y2 y3) (api_Event.l0 (k + 1) y0 y1 y2 y3))
  | 0 => fun _ _ _ _ r h => by simp [api_Event.l0] at h
  | k + 1 => by
    have ih0 := api_Event.mono_l k
    · intro y0 y1 y2 y3
      unfold api_Event.l0
      repeat' first
      | (with_reducible exact ih0 _ _ _ _)
      | (with_reducible exact LeO.refl _)
      | (with_reducible exact LeO.none _)
      | (with_reducible refine LeO.ite ?_ ?_)
      | (with_reducible refine LeO.bind ?_ (fun _ => ?_))
      | exact ih0 _ _ _ _
      | exact LeO.none _
      | refine LeO.ite ?_ ?_
      | refine LeO.bind ?_ (fun _ => ?_)
theorem api_Event.mono : ∀ a0 a1 k, LeO (api_Event.f k a0 a1) (api_Event.f (k + 1) a0 a1) := by
  intro a0 a1 k
  have ih0 := api_Event.mono_l k
  unfold api_Event.f
  repeat' first
      | (with_reducible exact ih0 _ _ _ _)
      | (with_reducible exact LeO.refl _)
      | (with_reducible exact LeO.none _)
      | (with_reducible refine LeO.ite ?_ ?_)
      | (with_reducible refine LeO.bind ?_ (fun _ => ?_))
      | exact ih0 _ _ _ _
      | exact LeO.none _
      | refine LeO.ite ?_ ?_
      | refine LeO.bind ?_ (fun _ => ?_)
set_option maxHeartbeats 8000000 in
set_option maxRecDepth 100000 in
theorem api_Event.calls (k : Nat) (A0 : Option Addr) (c0 : Nat) (l0 : List (S34)) (A1 : Option Addr) (c1 : Nat) (l1 : List (S34)) (r : Bool) (w : World) (hr0 : Kd.C k34 w A0 l0.length l0) (hc0 : l0.length ≤ c0) (hr1 : Kd.C k34 w A1 l1.length l1) (hc1 : l1.length ≤ c1) (h : api_Event.f k l0 l1 = some r) :
    Calls Tryd.prog 78 #[.slice A0 l0.length c0, .slice A1 l1.length c1] w fun e w' => e = .returned (.bool r) ∧ Drawn0 w w' := by
  have hu34 := Tryd.underlying34
  have HR0 := Aside0.mk hr0
  have HC0 := Aside0.mk hc0
  clear hr0 hc0
  have HR1 := Aside0.mk hr1
  have HC1 := Aside0.mk hc1
  clear hr1 hc1
  have H : (if (l0.length : Int) = (l1.length : Int) then (api_Event.l0 k l0 l1 (l0.length : Int) 0) else (some false)) = some r := h
  clear h
  by_cases c3 : (l0.length : Int) = (l1.length : Int)
  · rw [if_pos c3] at H
    have c3b0 : ((l0.length : Int) == (l1.length : Int)) = true := beq_iff_eq.mpr c3
    have c3b1 : ((l0.length : Int) != (l1.length : Int)) = false := bne_eq_false_iff_eq.mpr c3
    have c3b2 : (l0.length == l1.length) = true := by first | simpa using c3 | (simp at c3 ⊢; omega)
    clear c3
    have H' := Aside0.mk H
    clear H
    go_enter Tryd.func78, Tryd.ntmps78
    go_wp2
    repeat (go_quiet (fail); try go_wp2)
    go_loopg [13] k (fun kq v13 w' => ∃ (x13_1 : Int), v13 = .int .i64 x13_1 ∧ Aside0 (api_Event.l0 kq l0 l1 (l0.length : Int) x13_1 = some r) ∧ Aside0 (kq ≤ k) ∧ Drawn0 w w')
    case atStart => exact ⟨(0), (by first | rfl | (simp; done) | (simp [*]; done)), H', ⟨Nat.le_refl _⟩, by repeat (first | exact Drawn0.refl _ | apply Drawn0.step)⟩
    case round =>
      clear H'
      try clear c1
      try clear p2
      try clear c3
      try clear c3b0
      try clear c3b1
      try clear c3b2
      obtain ⟨x13_1, rfl, HA, HK1, ⟨m1, rfl⟩⟩ := hrel
      cases gk with
      | zero => exact absurd HA.out (by simp [api_Event.l0])
      | succ k1 =>
        have H := HA.out
        clear HA
        simp only [api_Event.l0] at H
        by_cases c4 : x13_1 < (l0.length : Int)
        · rw [if_pos c4] at H
          have c4b0 : decide (x13_1 < (l0.length : Int)) = true := decide_eq_true c4
          clear c4
          by_cases c5 : 0 ≤ x13_1
          · rw [if_pos c5] at H
            have c5b0 : decide (0 ≤ x13_1) = true := decide_eq_true c5
            clear c5
            by_cases c6 : x13_1 < (l0.length : Int)
            · rw [if_pos c6] at H
              have c6b0 : decide (x13_1 < (l0.length : Int)) = true := decide_eq_true c6
              clear c6
              by_cases c7 : x13_1 < (l1.length : Int)
              · rw [if_pos c7] at H
                have c7b0 : decide (x13_1 < (l1.length : Int)) = true := decide_eq_true c7
                clear c7
                by_cases c8 : (!(((rd_T34 l0 x13_1).f0) == ((rd_T34 l1 x13_1).f0)) || (!(((rd_T34 l0 x13_1).f1) == ((rd_T34 l1 x13_1).f1)) || (!(((rd_T34 l0 x13_1).f2) == ((rd_T34 l1 x13_1).f2)) || (!(((rd_T34 l0 x13_1).f3) == ((rd_T34 l1 x13_1).f3)))))) = true
                · rw [if_pos c8] at H
                  have c8b0 : (!(((rd_T34 l0 x13_1).f0) == ((rd_T34 l1 x13_1).f0)) || (!(((rd_T34 l0 x13_1).f1) == ((rd_T34 l1 x13_1).f1)) || (!(((rd_T34 l0 x13_1).f2) == ((rd_T34 l1 x13_1).f2)) || (!(((rd_T34 l0 x13_1).f3) == ((rd_T34 l1 x13_1).f3)))))) = true := c8
                  clear c8
                  obtain rfl := Option.some.inj H
                  have p157 : 0 ≤ (x13_1 : Int) := of_decide_eq_true (by first | (with_reducible assumption) | assumption)
                  have q157 : x13_1 < (l0.length : Int) := of_decide_eq_true (by first | (with_reducible assumption) | assumption)
                  obtain ⟨ad157, e157, hx157_0, hx157_1, hx157_2, hx157_3⟩ := at_T34 HR0.out x13_1 p157 q157
                  cases e157
                  replace p157 := eq_true p157
                  replace q157 := eq_true q157
                  have p158 : 0 ≤ (x13_1 : Int) := of_decide_eq_true (by first | (with_reducible assumption) | assumption)
                  have q158 : x13_1 < (l1.length : Int) := of_decide_eq_true (by first | (with_reducible assumption) | assumption)
                  obtain ⟨ad158, e158, hx158_0, hx158_1, hx158_2, hx158_3⟩ := at_T34 HR1.out x13_1 p158 q158
                  cases e158
                  replace p158 := eq_true p158
                  replace q158 := eq_true q158
                  go_wp2
                  repeat (go_quiet (fail); try go_wp2)
                  go_ret
                  exact ⟨by first | rfl | (simp; done) | (simp [*]; done), by repeat (first | exact Drawn0.refl _ | apply Drawn0.step)⟩
                · rw [if_neg c8] at H
                  have c8b0 : (!(((rd_T34 l0 x13_1).f0) == ((rd_T34 l1 x13_1).f0)) || (!(((rd_T34 l0 x13_1).f1) == ((rd_T34 l1 x13_1).f1)) || (!(((rd_T34 l0 x13_1).f2) == ((rd_T34 l1 x13_1).f2)) || (!(((rd_T34 l0 x13_1).f3) == ((rd_T34 l1 x13_1).f3)))))) = false := by simpa using c8
                  clear c8
                  have H' := Aside0.mk H
                  clear H
                  have p157 : 0 ≤ (x13_1 : Int) := of_decide_eq_true (by first | (with_reducible assumption) | assumption)
                  have q157 : x13_1 < (l0.length : Int) := of_decide_eq_true (by first | (with_reducible assumption) | assumption)
                  obtain ⟨ad157, e157, hx157_0, hx157_1, hx157_2, hx157_3⟩ := at_T34 HR0.out x13_1 p157 q157
                  cases e157
                  replace p157 := eq_true p157
                  replace q157 := eq_true q157
                  have p158 : 0 ≤ (x13_1 : Int) := of_decide_eq_true (by first | (with_reducible assumption) | assumption)
                  have q158 : x13_1 < (l1.length : Int) := of_decide_eq_true (by first | (with_reducible assumption) | assumption)
                  obtain ⟨ad158, e158, hx158_0, hx158_1, hx158_2, hx158_3⟩ := at_T34 HR1.out x13_1 p158 q158
                  cases e158
                  replace p158 := eq_true p158
                  replace q158 := eq_true q158
                  go_wp2
                  repeat (go_quiet (fail); try go_wp2)
                  go_roundg k1
                  case measure => have := HK1.out; omega
                  case rel => exact ⟨(wrap64 (x13_1 + 1)), (by first | rfl | (simp; done) | (simp [*]; done)), H', ⟨by have := HK1.out; omega⟩, by repeat (first | exact Drawn0.refl _ | apply Drawn0.step)⟩
              · rw [if_neg c7] at H
                exact absurd H (by simp)
            · rw [if_neg c6] at H
              exact absurd H (by simp)
          · rw [if_neg c5] at H
            exact absurd H (by simp)
        · rw [if_neg c4] at H
          have c4b0 : decide (x13_1 < (l0.length : Int)) = false := decide_eq_false c4
          clear c4
          obtain rfl := Option.some.inj H
          go_wp2
          repeat (go_quiet (fail); try go_wp2)
          go_ret
          exact ⟨by first | rfl | (simp; done) | (simp [*]; done), by repeat (first | exact Drawn0.refl _ | apply Drawn0.step)⟩
  · rw [if_neg c3] at H
    have c3b0 : ((l0.length : Int) == (l1.length : Int)) = false := beq_eq_false_iff_ne.mpr c3
    have c3b1 : ((l0.length : Int) != (l1.length : Int)) = true := bne_iff_ne.mpr c3
    have c3b2 : (l0.length == l1.length) = false := by first | simpa using c3 | (simp at c3 ⊢; omega)
    obtain rfl := Option.some.inj H
    go_enter Tryd.func78, Tryd.ntmps78
    go_wp2
    repeat (go_quiet (fail); try go_wp2)
    go_ret
    exact ⟨by first | rfl | (simp; done) | (simp [*]; done), by repeat (first | exact Drawn0.refl _ | apply Drawn0.step)⟩

/-! ### text_Like: function 37 -/
def text_Like.f (k : Nat) (l0 : List (S34)) (l1 : List (S34)) : Option (Bool) := (api_Event.f k l0 l1).bind fun t159 => (some t159)
theorem text_Like.mono : ∀ a0 a1 k, LeO (text_Like.f k a0 a1) (text_Like.f (k + 1) a0 a1) := by
  intro a0 a1 k
  unfold text_Like.f
  repeat' first
      | (with_reducible exact api_Event.mono _ _ _)
      | (with_reducible exact LeO.refl _)
      | (with_reducible exact LeO.none _)
      | (with_reducible refine LeO.ite ?_ ?_)
      | (with_reducible refine LeO.bind ?_ (fun _ => ?_))
      | exact api_Event.mono _ _ _
      | exact LeO.none _
      | refine LeO.ite ?_ ?_
      | refine LeO.bind ?_ (fun _ => ?_)
set_option maxHeartbeats 8000000 in
set_option maxRecDepth 100000 in
theorem text_Like.calls (k : Nat) (A0 : Option Addr) (c0 : Nat) (l0 : List (S34)) (A1 : Option Addr) (c1 : Nat) (l1 : List (S34)) (r : Bool) (w : World) (hr0 : Kd.C k34 w A0 l0.length l0) (hc0 : l0.length ≤ c0) (hr1 : Kd.C k34 w A1 l1.length l1) (hc1 : l1.length ≤ c1) (h : text_Like.f k l0 l1 = some r) :
    Calls Tryd.prog 37 #[.slice A0 l0.length c0, .slice A1 l1.length c1] w fun e w' => e = .returned (.bool r) ∧ Drawn0 w w' := by
  have HR0 := Aside0.mk hr0
  have HC0 := Aside0.mk hc0
  clear hr0 hc0
  have HR1 := Aside0.mk hr1
  have HC1 := Aside0.mk hc1
  clear hr1 hc1
  have H : ((api_Event.f k l0 l1).bind fun t159 => (some t159)) = some r := h
  clear h
  replace H := Option.bind_eq_some_iff.mp H
  obtain ⟨t159, A30, H⟩ := H
  replace H : (some t159) = some r := H
  have A3 := Aside0.mk A30
  clear A30
  obtain rfl := Option.some.inj H
  go_enter Tryd.func37, Tryd.ntmps37
  go_wp2_with (first | ((with_reducible refine gate_callee (f := 78) rfl ?_); refine goesL_ (some 7) rfl rfl Tryd.func78 (by kernel_rfl) rfl #[.slice A0 l0.length c0, .slice A1 l1.length c1] rfl (by (try simp only [List.map_toArray, List.map_cons, List.map_nil]); first | done | rfl | (simp only [List.length_drop, List.length_take]; rfl)) ?_; (with_reducible refine (api_Event.calls k _ _ l0 _ _ l1 t159 _ ?side1 ?side2 ?side3 ?side4 A3.out).mono ?_); (case side1 => repeat (first | exact HR0.out | (with_reducible refine Kd.C_alloc ?_ _) | (with_reducible refine Kd.C_drewN ?_ _) | (with_reducible refine Kd.C_drew ?_))); (case side2 => exact HC0.out); (case side3 => repeat (first | exact HR1.out | (with_reducible refine Kd.C_alloc ?_ _) | (with_reducible refine Kd.C_drewN ?_ _) | (with_reducible refine Kd.C_drew ?_))); (case side4 => exact HC1.out); rintro e w' ⟨rfl, ⟨nd, rfl⟩⟩; refine ⟨_, rfl, ?_⟩))
  go_ret
  exact ⟨by first | rfl | (simp; done) | (simp [*]; done), by repeat (first | exact Drawn0.refl _ | apply Drawn0.step)⟩

/-! ### recantref01_Text: function 26 -/
def recantref01_Text.f : Nat → Int → Option (ByteArray)
  | 0, _ => none
  | k + 1, a0 => if a0 < 0 then ((recantref01_Text.f k (wrap64 (-a0))).bind fun t160 => (if 1 + t160.size ≤ 9223372036854775807 then (some ((⟨#[45]⟩ : ByteArray) ++ t160)) else (none))) else (if a0 < 10 then (if 0 ≤ a0 then (if a0 ≤ (wrap64 (a0 + 1)) then (if (wrap64 (a0 + 1)) ≤ 10 then (some ((⟨#[48, 49, 50, 51, 52, 53, 54, 55, 56, 57]⟩ : ByteArray).extract (a0 : Int).toNat ((wrap64 (a0 + 1)) : Int).toNat)) else (none)) else (none)) else (none)) else ((recantref01_Text.f k (wrap64 (Int.tdiv a0 10))).bind fun t161 => ((recantref01_Text.f k (Int.tmod a0 10)).bind fun t162 => (if t161.size + t162.size ≤ 9223372036854775807 then (some (t161 ++ t162)) else (none)))))
theorem recantref01_Text.mono_l : ∀ k, (∀ y0, LeO (recantref01_Text.f k y0) (recantref01_Text.f (k + 1) y0))
  | 0 => fun _ r h => by simp [recantref01_Text.f] at h
  | k + 1 => by
    have ih0 := recantref01_Text.mono_l k
    · intro y0
      unfold recantref01_Text.f
      repeat' first
      | (with_reducible exact ih0 _)
      | (with_reducible exact LeO.refl _)
      | (with_reducible exact LeO.none _)
      | (with_reducible refine LeO.ite ?_ ?_)
      | (with_reducible refine LeO.bind ?_ (fun _ => ?_))
      | exact ih0 _
      | exact LeO.none _
      | refine LeO.ite ?_ ?_
      | refine LeO.bind ?_ (fun _ => ?_)
theorem recantref01_Text.mono : ∀ a0 k, LeO (recantref01_Text.f k a0) (recantref01_Text.f (k + 1) a0) := by
  intro a0 k
  have ih0 := recantref01_Text.mono_l k
  exact ih0 a0
set_option maxHeartbeats 8000000 in
set_option maxRecDepth 100000 in
theorem recantref01_Text.calls (k : Nat) : ∀ (a0 : Int) (r : ByteArray) (w : World) (h : recantref01_Text.f k a0 = some r),
    Calls Tryd.prog 26 #[.int .i64 a0] w fun e w' => e = .returned (.string r) ∧ Drawn0 w w' := by
  induction k using Nat.strongRecOn with
  | _ k ih =>
  intro a0 r w h
  cases k with
  | zero => exact absurd h (by simp [recantref01_Text.f])
  | succ k =>
  simp only [recantref01_Text.f] at h
  have H : (if a0 < 0 then ((recantref01_Text.f k (wrap64 (-a0))).bind fun t160 => (if 1 + t160.size ≤ 9223372036854775807 then (some ((⟨#[45]⟩ : ByteArray) ++ t160)) else (none))) else (if a0 < 10 then (if 0 ≤ a0 then (if a0 ≤ (wrap64 (a0 + 1)) then (if (wrap64 (a0 + 1)) ≤ 10 then (some ((⟨#[48, 49, 50, 51, 52, 53, 54, 55, 56, 57]⟩ : ByteArray).extract (a0 : Int).toNat ((wrap64 (a0 + 1)) : Int).toNat)) else (none)) else (none)) else (none)) else ((recantref01_Text.f k (wrap64 (Int.tdiv a0 10))).bind fun t161 => ((recantref01_Text.f k (Int.tmod a0 10)).bind fun t162 => (if t161.size + t162.size ≤ 9223372036854775807 then (some (t161 ++ t162)) else (none)))))) = some r := h
  clear h
  by_cases c2 : a0 < 0
  · rw [if_pos c2] at H
    have c2b0 : decide (a0 < 0) = true := decide_eq_true c2
    clear c2
    replace H := Option.bind_eq_some_iff.mp H
    obtain ⟨t160, A30, H⟩ := H
    replace H : (if 1 + t160.size ≤ 9223372036854775807 then (some ((⟨#[45]⟩ : ByteArray) ++ t160)) else (none)) = some r := H
    have A3 := Aside0.mk A30
    clear A30
    by_cases c4 : 1 + t160.size ≤ 9223372036854775807
    · rw [if_pos c4] at H
      have c4b0 := eq_true c4
      have c4b1 : decide (1 + t160.size ≤ 9223372036854775807) = true := decide_eq_true c4
      try have c4b2 : (9223372036854775807 < 1 + t160.size) = False := eq_false (Nat.not_lt.2 c4)
      obtain rfl := Option.some.inj H
      go_enter Tryd.func26, Tryd.ntmps26
      go_wp2_with (first | ((with_reducible refine gate_callee (f := 26) rfl ?_); refine goesL_ (some 7) rfl rfl Tryd.func26 (by kernel_rfl) rfl #[.int .i64 (wrap64 (-a0))] rfl (by (try simp only [List.map_toArray, List.map_cons, List.map_nil]); first | done | rfl | (simp only [List.length_drop, List.length_take]; rfl)) ?_; (with_reducible refine (ih k (by omega) (wrap64 (-a0)) t160 _ A3.out).mono ?_); rintro e w' ⟨rfl, ⟨nd, rfl⟩⟩; refine ⟨_, rfl, ?_⟩))
      go_ret
      exact ⟨by first | rfl | (simp; done) | (simp [*]; done), by repeat (first | exact Drawn0.refl _ | apply Drawn0.step)⟩
    · rw [if_neg c4] at H
      exact absurd H (by simp)
  · rw [if_neg c2] at H
    have c2b0 : decide (a0 < 0) = false := decide_eq_false c2
    clear c2
    by_cases c5 : a0 < 10
    · rw [if_pos c5] at H
      have c5b0 : decide (a0 < 10) = true := decide_eq_true c5
      clear c5
      by_cases c6 : 0 ≤ a0
      · rw [if_pos c6] at H
        have c6b0 := eq_true c6
        have c6b1 : decide (0 ≤ a0) = true := decide_eq_true c6
        clear c6
        by_cases c7 : a0 ≤ (wrap64 (a0 + 1))
        · rw [if_pos c7] at H
          have c7b0 := eq_true c7
          have c7b1 : decide (a0 ≤ (wrap64 (a0 + 1))) = true := decide_eq_true c7
          by_cases c8 : (wrap64 (a0 + 1)) ≤ 10
          · rw [if_pos c8] at H
            have c8b0 := eq_true c8
            have c8b1 : decide ((wrap64 (a0 + 1)) ≤ 10) = true := decide_eq_true c8
            obtain rfl := Option.some.inj H
            go_enter Tryd.func26, Tryd.ntmps26
            go_wp2
            go_ret
            exact ⟨by first | rfl | (simp; done) | (simp [*]; done), by repeat (first | exact Drawn0.refl _ | apply Drawn0.step)⟩
          · rw [if_neg c8] at H
            exact absurd H (by simp)
        · rw [if_neg c7] at H
          exact absurd H (by simp)
      · rw [if_neg c6] at H
        exact absurd H (by simp)
    · rw [if_neg c5] at H
      have c5b0 : decide (a0 < 10) = false := decide_eq_false c5
      clear c5
      replace H := Option.bind_eq_some_iff.mp H
      obtain ⟨t161, A90, H⟩ := H
      replace H : ((recantref01_Text.f k (Int.tmod a0 10)).bind fun t162 => (if t161.size + t162.size ≤ 9223372036854775807 then (some (t161 ++ t162)) else (none))) = some r := H
      have A9 := Aside0.mk A90
      clear A90
      replace H := Option.bind_eq_some_iff.mp H
      obtain ⟨t162, A100, H⟩ := H
      replace H : (if t161.size + t162.size ≤ 9223372036854775807 then (some (t161 ++ t162)) else (none)) = some r := H
      have A10 := Aside0.mk A100
      clear A100
      by_cases c11 : t161.size + t162.size ≤ 9223372036854775807
      · rw [if_pos c11] at H
        have c11b0 := eq_true c11
        have c11b1 : decide (t161.size + t162.size ≤ 9223372036854775807) = true := decide_eq_true c11
        try have c11b2 : (9223372036854775807 < t161.size + t162.size) = False := eq_false (Nat.not_lt.2 c11)
        obtain rfl := Option.some.inj H
        go_enter Tryd.func26, Tryd.ntmps26
        go_wp2_with (first | ((with_reducible refine gate_callee (f := 26) rfl ?_); refine goesL_ (some 17) rfl rfl Tryd.func26 (by kernel_rfl) rfl #[.int .i64 (wrap64 (Int.tdiv a0 10))] rfl (by (try simp only [List.map_toArray, List.map_cons, List.map_nil]); first | done | rfl | (simp only [List.length_drop, List.length_take]; rfl)) ?_; (with_reducible refine (ih k (by omega) (wrap64 (Int.tdiv a0 10)) t161 _ A9.out).mono ?_); rintro e w' ⟨rfl, ⟨nd, rfl⟩⟩; refine ⟨_, rfl, ?_⟩) | ((with_reducible refine gate_callee (f := 26) rfl ?_); refine goesL_ (some 20) rfl rfl Tryd.func26 (by kernel_rfl) rfl #[.int .i64 (Int.tmod a0 10)] rfl (by (try simp only [List.map_toArray, List.map_cons, List.map_nil]); first | done | rfl | (simp only [List.length_drop, List.length_take]; rfl)) ?_; (with_reducible refine (ih k (by omega) (Int.tmod a0 10) t162 _ A10.out).mono ?_); rintro e w' ⟨rfl, ⟨nd, rfl⟩⟩; refine ⟨_, rfl, ?_⟩))
        go_ret
        exact ⟨by first | rfl | (simp; done) | (simp [*]; done), by repeat (first | exact Drawn0.refl _ | apply Drawn0.step)⟩
      · rw [if_neg c11] at H
        exact absurd H (by simp)

/-! ### recantref02_Word: function 79 -/
def recantref02_Word.f (a0 : Int) : Option (ByteArray) := (some (([(⟨#[98, 101, 103, 105, 110]⟩ : ByteArray), (⟨#[98, 101, 103, 117, 110]⟩ : ByteArray), (⟨#[114, 101, 97, 100]⟩ : ByteArray), (⟨#[103, 111, 116]⟩ : ByteArray), (⟨#[119, 114, 105, 116, 101]⟩ : ByteArray), (⟨#[119, 114, 111, 116, 101]⟩ : ByteArray), (⟨#[99, 111, 109, 109, 105, 116]⟩ : ByteArray), (⟨#[99, 111, 109, 109, 105, 116, 116, 101, 100]⟩ : ByteArray), (⟨#[99, 97, 110, 99, 101, 108]⟩ : ByteArray), (⟨#[97, 98, 111, 114, 116, 101, 100]⟩ : ByteArray)] : List ByteArray) : List ByteArray)).bind fun y163 => (if 0 ≤ a0 then (if a0 < (y163.length : Int) then (some (rdOf ByteArray.empty y163 a0)) else (none)) else (none))
set_option maxHeartbeats 8000000 in
set_option maxRecDepth 100000 in
theorem recantref02_Word.calls (a0 : Int) (r : ByteArray) (w : World) (h : recantref02_Word.f a0 = some r) :
    Calls Tryd.prog 79 #[.int .i64 a0] w fun e w' => e = .returned (.string r) ∧ Below w.heap.size w w' := by
  have HB := Aside0.mk (Below.refl w.heap.size w)
  have H : ((some (([(⟨#[98, 101, 103, 105, 110]⟩ : ByteArray), (⟨#[98, 101, 103, 117, 110]⟩ : ByteArray), (⟨#[114, 101, 97, 100]⟩ : ByteArray), (⟨#[103, 111, 116]⟩ : ByteArray), (⟨#[119, 114, 105, 116, 101]⟩ : ByteArray), (⟨#[119, 114, 111, 116, 101]⟩ : ByteArray), (⟨#[99, 111, 109, 109, 105, 116]⟩ : ByteArray), (⟨#[99, 111, 109, 109, 105, 116, 116, 101, 100]⟩ : ByteArray), (⟨#[99, 97, 110, 99, 101, 108]⟩ : ByteArray), (⟨#[97, 98, 111, 114, 116, 101, 100]⟩ : ByteArray)] : List ByteArray) : List ByteArray)).bind fun y163 => (if 0 ≤ a0 then (if a0 < (y163.length : Int) then (some (rdOf ByteArray.empty y163 a0)) else (none)) else (none))) = some r := h
  clear h
  obtain ⟨y163, hy163⟩ : ∃ y_ : List ByteArray, y_ = (([(⟨#[98, 101, 103, 105, 110]⟩ : ByteArray), (⟨#[98, 101, 103, 117, 110]⟩ : ByteArray), (⟨#[114, 101, 97, 100]⟩ : ByteArray), (⟨#[103, 111, 116]⟩ : ByteArray), (⟨#[119, 114, 105, 116, 101]⟩ : ByteArray), (⟨#[119, 114, 111, 116, 101]⟩ : ByteArray), (⟨#[99, 111, 109, 109, 105, 116]⟩ : ByteArray), (⟨#[99, 111, 109, 109, 105, 116, 116, 101, 100]⟩ : ByteArray), (⟨#[99, 97, 110, 99, 101, 108]⟩ : ByteArray), (⟨#[97, 98, 111, 114, 116, 101, 100]⟩ : ByteArray)] : List ByteArray)) := ⟨_, rfl⟩
  replace H : (if 0 ≤ a0 then (if a0 < (y163.length : Int) then (some (rdOf ByteArray.empty y163 a0)) else (none)) else (none)) = some r := by first | (rw [hy163]; with_reducible exact H) | (have H2_ := (Option.bind_some _ _).symm.trans H; rw [hy163]; with_reducible exact H2_) | (have H2_ := (Option.bind_some _ _).symm.trans H; with_reducible exact H2_) | with_reducible exact H | (rw [hy163]; exact H) | exact H
  have Ny163 := Aside0.mk hy163
  clear hy163
  by_cases c2 : 0 ≤ a0
  · rw [if_pos c2] at H
    have c2b0 : decide (0 ≤ a0) = true := decide_eq_true c2
    clear c2
    by_cases c3 : a0 < (y163.length : Int)
    · rw [if_pos c3] at H
      have c3b0 : decide (a0 < (y163.length : Int)) = true := decide_eq_true c3
      clear c3
      obtain rfl := Option.some.inj H
      go_enter Tryd.func79, Tryd.ntmps79
      go_wp2_with (first | ((with_reducible refine gate_dst (N := 3) rfl ?_); refine Kd.R_lit Kd.string _ 9 ?hg (N := 3) ?hd (xs := ([(⟨#[98, 101, 103, 105, 110]⟩ : ByteArray), (⟨#[98, 101, 103, 117, 110]⟩ : ByteArray), (⟨#[114, 101, 97, 100]⟩ : ByteArray), (⟨#[103, 111, 116]⟩ : ByteArray), (⟨#[119, 114, 105, 116, 101]⟩ : ByteArray), (⟨#[119, 114, 111, 116, 101]⟩ : ByteArray), (⟨#[99, 111, 109, 109, 105, 116]⟩ : ByteArray), (⟨#[99, 111, 109, 109, 105, 116, 116, 101, 100]⟩ : ByteArray), (⟨#[99, 97, 110, 99, 101, 108]⟩ : ByteArray), (⟨#[97, 98, 111, 114, 116, 101, 100]⟩ : ByteArray)] : List ByteArray)) (inner := [.string (⟨#[98, 101, 103, 105, 110]⟩ : ByteArray), .string (⟨#[98, 101, 103, 117, 110]⟩ : ByteArray), .string (⟨#[114, 101, 97, 100]⟩ : ByteArray), .string (⟨#[103, 111, 116]⟩ : ByteArray), .string (⟨#[119, 114, 105, 116, 101]⟩ : ByteArray), .string (⟨#[119, 114, 111, 116, 101]⟩ : ByteArray), .string (⟨#[99, 111, 109, 109, 105, 116]⟩ : ByteArray), .string (⟨#[99, 111, 109, 109, 105, 116, 116, 101, 100]⟩ : ByteArray), .string (⟨#[99, 97, 110, 99, 101, 108]⟩ : ByteArray), .string (⟨#[97, 98, 111, 114, 116, 101, 100]⟩ : ByteArray)]) (ok := fun _ => True) (okp := fun _ => True) ?hr ?hp (fun _ hk => hk) trivial (Below.refl _ _) (Nat.le_refl _) (by simp) ?_; (case hd => rfl); (case hg => rfl); (case hr => first | (go_simp; done) | (go_simp; rfl)); (case hp => exact (Reps.one (show Kd.M Kd.string _ _ _ (⟨#[98, 101, 103, 105, 110]⟩ : ByteArray) [.string (⟨#[98, 101, 103, 105, 110]⟩ : ByteArray)] from rfl) (Reps.one (show Kd.M Kd.string _ _ _ (⟨#[98, 101, 103, 117, 110]⟩ : ByteArray) [.string (⟨#[98, 101, 103, 117, 110]⟩ : ByteArray)] from rfl) (Reps.one (show Kd.M Kd.string _ _ _ (⟨#[114, 101, 97, 100]⟩ : ByteArray) [.string (⟨#[114, 101, 97, 100]⟩ : ByteArray)] from rfl) (Reps.one (show Kd.M Kd.string _ _ _ (⟨#[103, 111, 116]⟩ : ByteArray) [.string (⟨#[103, 111, 116]⟩ : ByteArray)] from rfl) (Reps.one (show Kd.M Kd.string _ _ _ (⟨#[119, 114, 105, 116, 101]⟩ : ByteArray) [.string (⟨#[119, 114, 105, 116, 101]⟩ : ByteArray)] from rfl) (Reps.one (show Kd.M Kd.string _ _ _ (⟨#[119, 114, 111, 116, 101]⟩ : ByteArray) [.string (⟨#[119, 114, 111, 116, 101]⟩ : ByteArray)] from rfl) (Reps.one (show Kd.M Kd.string _ _ _ (⟨#[99, 111, 109, 109, 105, 116]⟩ : ByteArray) [.string (⟨#[99, 111, 109, 109, 105, 116]⟩ : ByteArray)] from rfl) (Reps.one (show Kd.M Kd.string _ _ _ (⟨#[99, 111, 109, 109, 105, 116, 116, 101, 100]⟩ : ByteArray) [.string (⟨#[99, 111, 109, 109, 105, 116, 116, 101, 100]⟩ : ByteArray)] from rfl) (Reps.one (show Kd.M Kd.string _ _ _ (⟨#[99, 97, 110, 99, 101, 108]⟩ : ByteArray) [.string (⟨#[99, 97, 110, 99, 101, 108]⟩ : ByteArray)] from rfl) (Reps.one (show Kd.M Kd.string _ _ _ (⟨#[97, 98, 111, 114, 116, 101, 100]⟩ : ByteArray) [.string (⟨#[97, 98, 111, 114, 116, 101, 100]⟩ : ByteArray)] from rfl) (Reps.none _ _)))))))))))); intro v164 w4 ho5 hb hg_ hnew_; clear hg_ hnew_; (first | rw [← Ny163.out] at ho5 | (simp only [Int.reduceToNat] at ho5; rw [← Ny163.out] at ho5)); have n0_ := Aside0.mk (Kd.R_lower ho5 (below_size (by repeat (first | (with_reducible first | exact HB.out | apply below_alloc | apply pw_below_drewN | apply below_drew1) | exact HB.out)))); have n1_ := Aside0.mk (below_step (by repeat (first | (with_reducible first | exact HB.out | apply below_alloc | apply pw_below_drewN | apply below_drew1) | exact HB.out)) hb); clear HB; have HO165 := n0_; have HB := n1_; clear n0_ n1_; clear hb ho5; obtain ⟨Ao6, co6, eo6⟩ := Kd.R_slice HO165.out; subst eo6; have p166 : 0 ≤ (a0 : Int) := of_decide_eq_true (by first | (with_reducible assumption) | assumption); have q166 : a0 < (y163.length : Int) := of_decide_eq_true (by first | (with_reducible assumption) | assumption); obtain ⟨ad166, e166, hx166_0⟩ := Kd.at_string (Kd.R_reads' HO165.out).2.2 a0 p166 q166; cases e166; replace p166 := eq_true p166; replace q166 := eq_true q166))
      go_ret
      exact ⟨by first | rfl | (simp [errW_none, errW_some] <;> rfl) | (simp [*, errW_none, errW_some] <;> rfl), by repeat (first | (with_reducible first | exact HB.out | apply below_alloc | apply pw_below_drewN | apply below_drew1) | exact HB.out)⟩
    · rw [if_neg c3] at H
      exact absurd H (by simp)
  · rw [if_neg c2] at H
    exact absurd H (by simp)

/-! ### recantref02_Print: function 38 -/
mutual
def recantref02_Print.l0 : Nat → ByteArray → List (S34) → Int → Int → Option (ByteArray)
  | 0, _, _, _, _ => none
  | k + 1, x3, x6, x7, x8 => if x8 < x7 then (if 0 ≤ x8 then (if x8 < (x6.length : Int) then ((recantref02_Word.f ((rd_T34 x6 x8).f0)).bind fun t169 => (if x3.size + t169.size ≤ 9223372036854775807 then (if (x3 ++ t169).size + 1 ≤ 9223372036854775807 then ((recantref01_Text.f k ((rd_T34 x6 x8).f1)).bind fun t170 => (if ((x3 ++ t169) ++ (⟨#[32]⟩ : ByteArray)).size + t170.size ≤ 9223372036854775807 then ((recantref02_Variable.f ((rd_T34 x6 x8).f0)).bind fun t171 => (if t171 = true then (if (((x3 ++ t169) ++ (⟨#[32]⟩ : ByteArray)) ++ t170).size + 1 ≤ 9223372036854775807 then ((recantref01_Text.f k ((rd_T34 x6 x8).f2)).bind fun t172 => (if ((((x3 ++ t169) ++ (⟨#[32]⟩ : ByteArray)) ++ t170) ++ (⟨#[32]⟩ : ByteArray)).size + t172.size ≤ 9223372036854775807 then (recantref02_Print.j1 k (((((x3 ++ t169) ++ (⟨#[32]⟩ : ByteArray)) ++ t170) ++ (⟨#[32]⟩ : ByteArray)) ++ t172) x6 x7 x8 ((rd_T34 x6 x8).f0) ((rd_T34 x6 x8).f1) ((rd_T34 x6 x8).f2) ((rd_T34 x6 x8).f3)) else (none))) else (none)) else (recantref02_Print.j1 k (((x3 ++ t169) ++ (⟨#[32]⟩ : ByteArray)) ++ t170) x6 x7 x8 ((rd_T34 x6 x8).f0) ((rd_T34 x6 x8).f1) ((rd_T34 x6 x8).f2) ((rd_T34 x6 x8).f3)))) else (none))) else (none)) else (none))) else (none)) else (none)) else (some x3)
def recantref02_Print.j1 : Nat → ByteArray → List (S34) → Int → Int → Int → Int → Int → Int → Option (ByteArray)
  | 0, _, _, _, _, _, _, _, _ => none
  | k + 1, x3, x6, x7, x8, x169000, x169001, x169002, x169003 => (recantref02_Value.f x169000).bind fun t173 => (if t173 = true then (if x3.size + 1 ≤ 9223372036854775807 then ((recantref01_Text.f k x169003).bind fun t174 => (if (x3 ++ (⟨#[32]⟩ : ByteArray)).size + t174.size ≤ 9223372036854775807 then (if ((x3 ++ (⟨#[32]⟩ : ByteArray)) ++ t174).size + 1 ≤ 9223372036854775807 then (recantref02_Print.l0 k (((x3 ++ (⟨#[32]⟩ : ByteArray)) ++ t174) ++ (⟨#[10]⟩ : ByteArray)) x6 x7 (wrap64 (x8 + 1))) else (none)) else (none))) else (none)) else (if x3.size + 1 ≤ 9223372036854775807 then (recantref02_Print.l0 k (x3 ++ (⟨#[10]⟩ : ByteArray)) x6 x7 (wrap64 (x8 + 1))) else (none)))
end
def recantref02_Print.f (k : Nat) (l0 : List (S34)) : Option (ByteArray) := recantref02_Print.l0 k (⟨#[]⟩ : ByteArray) l0 (l0.length : Int) 0
theorem recantref02_Print.mono_l : ∀ k, (∀ y0 y1 y2 y3, LeO (recantref02_Print.l0 k y0 y1 y2 y3) (recantref02_Print.l0 (k + 1) y0 y1 y2 y3)) ∧ (∀ y0 y1 y2 y3 y4 y5 y6 y7, LeO (recantref02_Print.j1 k y0 y1 y2 y3 y4 y5 y6 y7) (recantref02_Print.j1 (k + 1) y0 y1 y2 y3 y4 y5 y6 y7))
  | 0 => ⟨fun _ _ _ _ r h => by simp [recantref02_Print.l0] at h, fun _ _ _ _ _ _ _ _ r h => by simp [recantref02_Print.j1] at h⟩
  | k + 1 => by
    obtain ⟨ih0, ih1⟩ := recantref02_Print.mono_l k
    refine ⟨?_, ?_⟩
    · intro y0 y1 y2 y3
      unfold recantref02_Print.l0
      repeat' first
      | (with_reducible exact ih0 _ _ _ _)
      | (with_reducible exact ih1 _ _ _ _ _ _ _ _)
      | (with_reducible exact recantref01_Text.mono _ _)
      | (with_reducible exact LeO.refl _)
      | (with_reducible exact LeO.none _)
      | (with_reducible refine LeO.ite ?_ ?_)
      | (with_reducible refine LeO.bind ?_ (fun _ => ?_))
      | exact ih0 _ _ _ _
      | exact ih1 _ _ _ _ _ _ _ _
      | exact recantref01_Text.mono _ _
      | exact LeO.none _
      | refine LeO.ite ?_ ?_
      | refine LeO.bind ?_ (fun _ => ?_)
    · intro y0 y1 y2 y3 y4 y5 y6 y7
      unfold recantref02_Print.j1
      repeat' first
      | (with_reducible exact ih0 _ _ _ _)
      | (with_reducible exact ih1 _ _ _ _ _ _ _ _)
      | (with_reducible exact recantref01_Text.mono _ _)
      | (with_reducible exact LeO.refl _)
      | (with_reducible exact LeO.none _)
      | (with_reducible refine LeO.ite ?_ ?_)
      | (with_reducible refine LeO.bind ?_ (fun _ => ?_))
      | exact ih0 _ _ _ _
      | exact ih1 _ _ _ _ _ _ _ _
      | exact recantref01_Text.mono _ _
      | exact LeO.none _
      | refine LeO.ite ?_ ?_
      | refine LeO.bind ?_ (fun _ => ?_)
theorem recantref02_Print.mono : ∀ a0 k, LeO (recantref02_Print.f k a0) (recantref02_Print.f (k + 1) a0) := by
  intro a0 k
  obtain ⟨ih0, ih1⟩ := recantref02_Print.mono_l k
  unfold recantref02_Print.f
  repeat' first
      | (with_reducible exact ih0 _ _ _ _)
      | (with_reducible exact ih1 _ _ _ _ _ _ _ _)
      | (with_reducible exact recantref01_Text.mono _ _)
      | (with_reducible exact LeO.refl _)
      | (with_reducible exact LeO.none _)
      | (with_reducible refine LeO.ite ?_ ?_)
      | (with_reducible refine LeO.bind ?_ (fun _ => ?_))
      | exact ih0 _ _ _ _
      | exact ih1 _ _ _ _ _ _ _ _
      | exact recantref01_Text.mono _ _
      | exact LeO.none _
      | refine LeO.ite ?_ ?_
      | refine LeO.bind ?_ (fun _ => ?_)
def recantref02_Print.T5 : Bool × List (List Nat × List Nat) := (true, [([], []), ([], []), ([1], [1]), ([2], [2]), ([0, 3], [0, 3]), ([4], [4]), ([], []), ([6], [6]), ([7, 3], [7]), ([5, 8], [5, 8]), ([9, 8, 0, 1, 2, 3, 4, 5, 6, 7, 8, 9], [0, 9])])
def recantref02_Print.B5 : List Nat := [0, 0, 2, 6, 15, 31, 0, 64, 206, 511, 1023]
theorem recantref02_Print.tab5 : rtab .any (opsOf Tryd.f38 5) = recantref02_Print.T5 := by kernel_rfl
theorem recantref02_Print.bits5 : waitsOk recantref02_Print.T5.2 recantref02_Print.B5 = true := by kernel_rfl
set_option maxHeartbeats 8000000 in
set_option maxRecDepth 100000 in
theorem recantref02_Print.calls (k : Nat) (A0 : Option Addr) (c0 : Nat) (l0 : List (S34)) (r : ByteArray) (w : World) (hr0 : Kd.C k34 w A0 l0.length l0) (hc0 : l0.length ≤ c0) (h : recantref02_Print.f k l0 = some r) :
    Calls Tryd.prog 38 #[.slice A0 l0.length c0] w fun e w' => e = .returned (.string r) ∧ Below w.heap.size w w' := by
  have hu34 := Tryd.underlying34
  have HR0 := Aside0.mk hr0
  have HC0 := Aside0.mk hc0
  clear hr0 hc0
  have HB := Aside0.mk (Below.refl w.heap.size w)
  have H : (recantref02_Print.l0 k (⟨#[]⟩ : ByteArray) l0 (l0.length : Int) 0) = some r := h
  clear h
  have H' := Aside0.mk H
  clear H
  go_enter Tryd.func38, Tryd.ntmps38
  go_wp2
  go_loopg [3, 8] k (fun kq v3 v8 w' => ∃ (x3_1 : ByteArray) (x8_1 : Int), v3 = .string x3_1 ∧ v8 = .int .i64 x8_1 ∧ Aside0 (recantref02_Print.l0 kq x3_1 l0 (l0.length : Int) x8_1 = some r) ∧ Aside0 (kq ≤ k) ∧ Aside0 (Below w.heap.size w w'))
  case atStart => exact ⟨((⟨#[]⟩ : ByteArray)), (0), (by first | rfl | (simp; done) | (simp [*]; done)), (by first | rfl | (simp; done) | (simp [*]; done)), H', ⟨Nat.le_refl _⟩, ⟨by repeat (first | (with_reducible first | exact HB.out | apply below_alloc | apply pw_below_drewN | apply below_drew1) | exact HB.out)⟩⟩
  case round =>
    clear H'
    obtain ⟨x3_1, x8_1, rfl, rfl, HA, HK1, HB⟩ := hrel
    cases gk with
    | zero => exact absurd HA.out (by simp [recantref02_Print.l0])
    | succ k1 =>
      have H := HA.out
      clear HA
      simp only [recantref02_Print.l0] at H
      by_cases c2 : x8_1 < (l0.length : Int)
      · rw [if_pos c2] at H
        have c2b0 : decide (x8_1 < (l0.length : Int)) = true := decide_eq_true c2
        clear c2
        by_cases c3 : 0 ≤ x8_1
        · rw [if_pos c3] at H
          have c3b0 : decide (0 ≤ x8_1) = true := decide_eq_true c3
          clear c3
          by_cases c4 : x8_1 < (l0.length : Int)
          · rw [if_pos c4] at H
            have c4b0 : decide (x8_1 < (l0.length : Int)) = true := decide_eq_true c4
            clear c4
            replace H := Option.bind_eq_some_iff.mp H
            obtain ⟨t169, A50, H⟩ := H
            replace H : (if x3_1.size + t169.size ≤ 9223372036854775807 then (if (x3_1 ++ t169).size + 1 ≤ 9223372036854775807 then ((recantref01_Text.f k1 ((rd_T34 l0 x8_1).f1)).bind fun t170 => (if ((x3_1 ++ t169) ++ (⟨#[32]⟩ : ByteArray)).size + t170.size ≤ 9223372036854775807 then ((recantref02_Variable.f ((rd_T34 l0 x8_1).f0)).bind fun t171 => (if t171 = true then (if (((x3_1 ++ t169) ++ (⟨#[32]⟩ : ByteArray)) ++ t170).size + 1 ≤ 9223372036854775807 then ((recantref01_Text.f k1 ((rd_T34 l0 x8_1).f2)).bind fun t172 => (if ((((x3_1 ++ t169) ++ (⟨#[32]⟩ : ByteArray)) ++ t170) ++ (⟨#[32]⟩ : ByteArray)).size + t172.size ≤ 9223372036854775807 then (recantref02_Print.j1 k1 (((((x3_1 ++ t169) ++ (⟨#[32]⟩ : ByteArray)) ++ t170) ++ (⟨#[32]⟩ : ByteArray)) ++ t172) l0 (l0.length : Int) x8_1 ((rd_T34 l0 x8_1).f0) ((rd_T34 l0 x8_1).f1) ((rd_T34 l0 x8_1).f2) ((rd_T34 l0 x8_1).f3)) else (none))) else (none)) else (recantref02_Print.j1 k1 (((x3_1 ++ t169) ++ (⟨#[32]⟩ : ByteArray)) ++ t170) l0 (l0.length : Int) x8_1 ((rd_T34 l0 x8_1).f0) ((rd_T34 l0 x8_1).f1) ((rd_T34 l0 x8_1).f2) ((rd_T34 l0 x8_1).f3)))) else (none))) else (none)) else (none)) = some r := H
            have A5 := Aside0.mk A50
            clear A50
            by_cases c6 : x3_1.size + t169.size ≤ 9223372036854775807
            · rw [if_pos c6] at H
              have c6b0 := eq_true c6
              have c6b1 : decide (x3_1.size + t169.size ≤ 9223372036854775807) = true := decide_eq_true c6
              try have c6b2 : (9223372036854775807 < x3_1.size + t169.size) = False := eq_false (Nat.not_lt.2 c6)
              by_cases c7 : (x3_1 ++ t169).size + 1 ≤ 9223372036854775807
              · rw [if_pos c7] at H
                have c7b0 := eq_true c7
                have c7b1 : decide ((x3_1 ++ t169).size + 1 ≤ 9223372036854775807) = true := decide_eq_true c7
                try have c7b2 : (9223372036854775807 < (x3_1 ++ t169).size + 1) = False := eq_false (Nat.not_lt.2 c7)
                try have c7b3 : (9223372036854775807 < x3_1.size + t169.size + 1) = False := eq_false (Nat.not_lt.2 (by have q_ := c7; simp only [ByteArray.size_append] at q_; exact q_))
                replace H := Option.bind_eq_some_iff.mp H
                obtain ⟨t170, A80, H⟩ := H
                replace H : (if ((x3_1 ++ t169) ++ (⟨#[32]⟩ : ByteArray)).size + t170.size ≤ 9223372036854775807 then ((recantref02_Variable.f ((rd_T34 l0 x8_1).f0)).bind fun t171 => (if t171 = true then (if (((x3_1 ++ t169) ++ (⟨#[32]⟩ : ByteArray)) ++ t170).size + 1 ≤ 9223372036854775807 then ((recantref01_Text.f k1 ((rd_T34 l0 x8_1).f2)).bind fun t172 => (if ((((x3_1 ++ t169) ++ (⟨#[32]⟩ : ByteArray)) ++ t170) ++ (⟨#[32]⟩ : ByteArray)).size + t172.size ≤ 9223372036854775807 then (recantref02_Print.j1 k1 (((((x3_1 ++ t169) ++ (⟨#[32]⟩ : ByteArray)) ++ t170) ++ (⟨#[32]⟩ : ByteArray)) ++ t172) l0 (l0.length : Int) x8_1 ((rd_T34 l0 x8_1).f0) ((rd_T34 l0 x8_1).f1) ((rd_T34 l0 x8_1).f2) ((rd_T34 l0 x8_1).f3)) else (none))) else (none)) else (recantref02_Print.j1 k1 (((x3_1 ++ t169) ++ (⟨#[32]⟩ : ByteArray)) ++ t170) l0 (l0.length : Int) x8_1 ((rd_T34 l0 x8_1).f0) ((rd_T34 l0 x8_1).f1) ((rd_T34 l0 x8_1).f2) ((rd_T34 l0 x8_1).f3)))) else (none)) = some r := H
                have A8 := Aside0.mk A80
                clear A80
                by_cases c9 : ((x3_1 ++ t169) ++ (⟨#[32]⟩ : ByteArray)).size + t170.size ≤ 9223372036854775807
                · rw [if_pos c9] at H
                  have c9b0 := eq_true c9
                  have c9b1 : decide (((x3_1 ++ t169) ++ (⟨#[32]⟩ : ByteArray)).size + t170.size ≤ 9223372036854775807) = true := decide_eq_true c9
                  try have c9b2 : (9223372036854775807 < ((x3_1 ++ t169) ++ (⟨#[32]⟩ : ByteArray)).size + t170.size) = False := eq_false (Nat.not_lt.2 c9)
                  try have c9b3 : (9223372036854775807 < x3_1.size + t169.size + 1 + t170.size) = False := eq_false (Nat.not_lt.2 (by have q_ := c9; simp only [ByteArray.size_append] at q_; exact q_))
                  replace H := Option.bind_eq_some_iff.mp H
                  obtain ⟨t171, A100, H⟩ := H
                  replace H : (if t171 = true then (if (((x3_1 ++ t169) ++ (⟨#[32]⟩ : ByteArray)) ++ t170).size + 1 ≤ 9223372036854775807 then ((recantref01_Text.f k1 ((rd_T34 l0 x8_1).f2)).bind fun t172 => (if ((((x3_1 ++ t169) ++ (⟨#[32]⟩ : ByteArray)) ++ t170) ++ (⟨#[32]⟩ : ByteArray)).size + t172.size ≤ 9223372036854775807 then (recantref02_Print.j1 k1 (((((x3_1 ++ t169) ++ (⟨#[32]⟩ : ByteArray)) ++ t170) ++ (⟨#[32]⟩ : ByteArray)) ++ t172) l0 (l0.length : Int) x8_1 ((rd_T34 l0 x8_1).f0) ((rd_T34 l0 x8_1).f1) ((rd_T34 l0 x8_1).f2) ((rd_T34 l0 x8_1).f3)) else (none))) else (none)) else (recantref02_Print.j1 k1 (((x3_1 ++ t169) ++ (⟨#[32]⟩ : ByteArray)) ++ t170) l0 (l0.length : Int) x8_1 ((rd_T34 l0 x8_1).f0) ((rd_T34 l0 x8_1).f1) ((rd_T34 l0 x8_1).f2) ((rd_T34 l0 x8_1).f3))) = some r := H
                  have A10 := Aside0.mk A100
                  clear A100
                  have HC11 := Aside0.mk H
                  clear H
                  have p167 : 0 ≤ (x8_1 : Int) := of_decide_eq_true (by first | (with_reducible assumption) | assumption)
                  have q167 : x8_1 < (l0.length : Int) := of_decide_eq_true (by first | (with_reducible assumption) | assumption)
                  obtain ⟨ad167, e167, hx167_0, hx167_1, hx167_2, hx167_3⟩ := at_T34 HR0.out x8_1 p167 q167
                  cases e167
                  replace hx167_0 := (HB.out.cell (World.block_lt_of_cell? w _ hx167_0)).trans hx167_0
                  replace hx167_1 := (HB.out.cell (World.block_lt_of_cell? w _ hx167_1)).trans hx167_1
                  replace hx167_2 := (HB.out.cell (World.block_lt_of_cell? w _ hx167_2)).trans hx167_2
                  replace hx167_3 := (HB.out.cell (World.block_lt_of_cell? w _ hx167_3)).trans hx167_3
                  replace p167 := eq_true p167
                  replace q167 := eq_true q167
                  try go_wp2_with (first | ((with_reducible refine gate_dst (N := 5) rfl ?_); refine box_event ?hg (N := 5) ?hd (cs := #[.int .i64 0, .int .i64 0, .int .i64 0, .int .i64 0]) (t := 34) ?hr ?_; (case hd => rfl); (case hg => rfl); (case hr => first | (go_simp; done) | (go_simp; rfl)); intro gb168 hg w12 hbox hb; have n0_ := Aside0.mk (below_step (by repeat (first | (with_reducible first | exact HB.out | apply below_alloc | apply pw_below_drewN | apply below_drew1) | exact HB.out)) hb); have n1_ := Aside0.mk (hbox); have n2_ := Aside0.mk ((by rw [hg]; exact (below_size (by repeat (first | (with_reducible first | exact HB.out | apply below_alloc | apply pw_below_drewN | apply below_drew1) | exact HB.out))) : w.heap.size ≤ gb168)); have n3_ := Aside0.mk ((by rw [hg]; exact (below_size (by repeat (first | (with_reducible first | exact HB.out | apply below_alloc | apply pw_below_drewN | apply below_drew1) | exact HB.out))) : w.heap.size ≤ gb168)); clear HB; have HB := n0_; have BK168 := n1_; have GW168 := n2_; have GE168 := n3_; clear n0_ n1_ n2_ n3_; clear hb hbox hg; have hcz13_0 : w12.cell? ⟨gb168, 0, none⟩ = some (.int .i64 0) := (blk_cell BK168.out 0).trans rfl; have hcz13_1 : w12.cell? ⟨gb168, 1, none⟩ = some (.int .i64 0) := (blk_cell BK168.out 1).trans rfl; have hcz13_2 : w12.cell? ⟨gb168, 2, none⟩ = some (.int .i64 0) := (blk_cell BK168.out 2).trans rfl; have hcz13_3 : w12.cell? ⟨gb168, 3, none⟩ = some (.int .i64 0) := (blk_cell BK168.out 3).trans rfl; have hfz13_0 := blk_frozen BK168.out 0; have hfz13_1 := blk_frozen BK168.out 1; have hfz13_2 := blk_frozen BK168.out 2; have hfz13_3 := blk_frozen BK168.out 3))
                  have n0_ : Aside0 (((((w12.setCell ⟨gb168, 0, none⟩ (.int .i64 ((rd_T34 l0 x8_1).f0))).setCell ⟨gb168, 1, none⟩ (.int .i64 ((rd_T34 l0 x8_1).f1))).setCell ⟨gb168, 2, none⟩ (.int .i64 ((rd_T34 l0 x8_1).f2))).setCell ⟨gb168, 3, none⟩ (.int .i64 ((rd_T34 l0 x8_1).f3))).heap[gb168]? = some (.cells #[.int .i64 ((rd_T34 l0 x8_1).f0), .int .i64 ((rd_T34 l0 x8_1).f1), .int .i64 ((rd_T34 l0 x8_1).f2), .int .i64 ((rd_T34 l0 x8_1).f3)] 34 (0, 0))) := ⟨by (with_reducible repeat (first | refine blk_drewN ?_ _ | refine blk_drew ?_ | refine blk_alloc ?_ _)); refine blk_put (cs := #[.int .i64 ((rd_T34 l0 x8_1).f0), .int .i64 ((rd_T34 l0 x8_1).f1), .int .i64 ((rd_T34 l0 x8_1).f2), .int .i64 0]) ?_ 3 _ rfl; (with_reducible repeat (first | refine blk_drewN ?_ _ | refine blk_drew ?_ | refine blk_alloc ?_ _)); refine blk_put (cs := #[.int .i64 ((rd_T34 l0 x8_1).f0), .int .i64 ((rd_T34 l0 x8_1).f1), .int .i64 0, .int .i64 0]) ?_ 2 _ rfl; (with_reducible repeat (first | refine blk_drewN ?_ _ | refine blk_drew ?_ | refine blk_alloc ?_ _)); refine blk_put (cs := #[.int .i64 ((rd_T34 l0 x8_1).f0), .int .i64 0, .int .i64 0, .int .i64 0]) ?_ 1 _ rfl; (with_reducible repeat (first | refine blk_drewN ?_ _ | refine blk_drew ?_ | refine blk_alloc ?_ _)); refine blk_put (cs := #[.int .i64 0, .int .i64 0, .int .i64 0, .int .i64 0]) ?_ 0 _ rfl; (with_reducible repeat (first | refine blk_drewN ?_ _ | refine blk_drew ?_ | refine blk_alloc ?_ _)); exact BK168.out⟩
                  have n1_ : Aside0 (Below w.heap.size w ((((w12.setCell ⟨gb168, 0, none⟩ (.int .i64 ((rd_T34 l0 x8_1).f0))).setCell ⟨gb168, 1, none⟩ (.int .i64 ((rd_T34 l0 x8_1).f1))).setCell ⟨gb168, 2, none⟩ (.int .i64 ((rd_T34 l0 x8_1).f2))).setCell ⟨gb168, 3, none⟩ (.int .i64 ((rd_T34 l0 x8_1).f3)))) := ⟨by repeat (first | (with_reducible first | exact HB.out | apply below_alloc | apply pw_below_drewN | apply below_drew1 | refine below_set ?_ GE168.out) | exact HB.out)⟩
                  (try clear BK168)
                  (try clear HB)
                  generalize ((((w12.setCell ⟨gb168, 0, none⟩ (.int .i64 ((rd_T34 l0 x8_1).f0))).setCell ⟨gb168, 1, none⟩ (.int .i64 ((rd_T34 l0 x8_1).f1))).setCell ⟨gb168, 2, none⟩ (.int .i64 ((rd_T34 l0 x8_1).f2))).setCell ⟨gb168, 3, none⟩ (.int .i64 ((rd_T34 l0 x8_1).f3))) = w14 at n0_ n1_ ⊢
                  have BK168 := n0_
                  have HB := n1_
                  clear n0_ n1_
                  have n0_ := Aside0.mk (blk_drew BK168.out)
                  have n1_ := Aside0.mk (below_drew1 HB.out)
                  clear BK168
                  clear HB
                  have BK168 := n0_
                  have HB := n1_
                  clear n0_ n1_
                  refine start_ (n := 11) (S := fun w' => w'.cell? ⟨gb168, 0, none⟩ = some (.int .i64 ((rd_T34 l0 x8_1).f0)) ∧ w'.cell? ⟨gb168, 1, none⟩ = some (.int .i64 ((rd_T34 l0 x8_1).f1)) ∧ w'.cell? ⟨gb168, 2, none⟩ = some (.int .i64 ((rd_T34 l0 x8_1).f2)) ∧ w'.cell? ⟨gb168, 3, none⟩ = some (.int .i64 ((rd_T34 l0 x8_1).f3))) (ds := []) #[false, false, false, false, false, false, false, false, false, false, false] (by kernel_rfl) rfl rfl ⟨(blk_cell BK168.out 0).trans rfl, (blk_cell BK168.out 1).trans rfl, (blk_cell BK168.out 2).trans rfl, (blk_cell BK168.out 3).trans rfl⟩ (fun hHeld => ?_); refine with_tabW recantref02_Print.tab5 recantref02_Print.bits5 (fun HT_ HW_ => ?_)
                  generalize w14.drew = w15 at BK168 HB hHeld ⊢
                  refine pure_ (i := 0) (N := some 12) (v := ?_) (a' := ?_) #[true, false, false, false, false, false, false, false, false, false, false] rfl rfl (any_of HT_.out (by kernel_rfl)) (fun _ _ _ h => h) (Or.inl ⟨by rfl, ?_⟩) ?_ ?_
                  rotate_left
                  · intro w'
                    go_simp
                    with_reducible rfl
                  rotate_left
                  · simp only [Act.put, List.setIfInBounds_toArray, List.set_cons_zero, List.set_cons_succ, i64_w, i32_w]
                    rfl
                  refine pure_ (i := 1) (N := some 13) (v := ?_) (a' := ?_) #[true, true, false, false, false, false, false, false, false, false, false] rfl rfl (any_of HT_.out (by kernel_rfl)) (fun _ _ _ h => h) (Or.inl ⟨by rfl, ?_⟩) ?_ ?_
                  rotate_left
                  · intro w'
                    go_simp
                    with_reducible rfl
                  rotate_left
                  · simp only [Act.put, List.setIfInBounds_toArray, List.set_cons_zero, List.set_cons_succ, i64_w, i32_w]
                    rfl
                  refine pure_ (i := 6) (N := some 18) (v := ?_) (a' := ?_) #[true, true, false, false, false, false, true, false, false, false, false] rfl rfl (any_of HT_.out (by kernel_rfl)) (fun _ _ _ h => h) (Or.inl ⟨by rfl, ?_⟩) ?_ ?_
                  rotate_left
                  · intro w'
                    go_simp
                    with_reducible rfl
                  rotate_left
                  · simp only [Act.put, List.setIfInBounds_toArray, List.set_cons_zero, List.set_cons_succ, i64_w, i32_w]
                    rfl
                  refine take_ (i := 2) (N := some 14) (v := ?_) (a' := ?_) #[true, true, true, false, false, false, true, false, false, false, false] rfl rfl (take_ofW HT_.out HW_.out (by kernel_rfl)) (fun _ _ _ h => h) (Or.inl ⟨by rfl, ?_⟩) hHeld ?_ ?_
                  rotate_left
                  · rintro w' ⟨s0, s1, s2, s3⟩
                    go_simp
                    with_reducible rfl
                  rotate_left
                  · simp only [Act.put, List.setIfInBounds_toArray, List.set_cons_zero, List.set_cons_succ, i64_w, i32_w]
                    rfl
                  refine take_ (i := 7) (N := some 19) (v := ?_) (a' := ?_) #[true, true, true, false, false, false, true, true, false, false, false] rfl rfl (take_ofW HT_.out HW_.out (by kernel_rfl)) (fun _ _ _ h => h) (Or.inl ⟨by rfl, ?_⟩) hHeld ?_ ?_
                  rotate_left
                  · rintro w' ⟨s0, s1, s2, s3⟩
                    go_simp
                    with_reducible rfl
                  rotate_left
                  · simp only [Act.put, List.setIfInBounds_toArray, List.set_cons_zero, List.set_cons_succ, i64_w, i32_w]
                    rfl
                  refine one_ (i := 3) (N := some 15) #[true, true, true, true, false, false, true, true, false, false, false] rfl rfl (one_of HT_.out (by kernel_rfl)) (by decide) (fun K hK => ?_)
                  refine goes_ Tryd.func79 (by kernel_rfl) rfl #[.int .i64 ((rd_T34 l0 x8_1).f0)] (by rfl) rfl rfl (by (try simp only [List.map_toArray, List.map_cons, List.map_nil]); first | done | rfl | (simp only [List.length_drop, List.length_take]; rfl)) ?_
                  with_reducible refine (recantref02_Word.calls ((rd_T34 l0 x8_1).f0) t169 _ A5.out).mono ?_
                  rintro e w16 ⟨rfl, hb⟩
                  refine ⟨_, rfl, ?_⟩
                  have n0_ := Aside0.mk (blk_below (g := gb168) (o := .cells #[.int .i64 ((rd_T34 l0 x8_1).f0), .int .i64 ((rd_T34 l0 x8_1).f1), .int .i64 ((rd_T34 l0 x8_1).f2), .int .i64 ((rd_T34 l0 x8_1).f3)] 34 (0, 0)) (by (with_reducible repeat (first | refine blk_drewN ?_ _ | refine blk_drew ?_ | refine blk_alloc ?_ _)); exact BK168.out) hb)
                  have n1_ := Aside0.mk (below_step (by repeat (first | (with_reducible first | exact HB.out | apply below_alloc | apply pw_below_drewN | apply below_drew1 | refine below_set ?_ GE168.out) | exact HB.out)) hb)
                  clear BK168
                  clear HB
                  have BK168 := n0_
                  have HB := n1_
                  clear n0_ n1_
                  (try clear hb)
                  (try clear hb2)
                  (try clear hk)
                  (try clear hi)
                  refine hK.out _ _ ⟨(blk_cell BK168.out 0).trans rfl, (blk_cell BK168.out 1).trans rfl, (blk_cell BK168.out 2).trans rfl, (blk_cell BK168.out 3).trans rfl⟩ (fun hHeld => ?_)
                  clear hK K
                  refine norm_ (a' := ?_) ?_ ?_
                  rotate_left
                  · show Act.put _ (some 15) _ = _
                    simp only [Act.put, List.setIfInBounds_toArray, List.set_cons_zero, List.set_cons_succ, i64_w, i32_w]
                    rfl
                  refine pure_ (i := 4) (N := some 16) (v := ?_) (a' := ?_) #[true, true, true, true, true, false, true, true, false, false, false] rfl rfl (any_of HT_.out (by kernel_rfl)) (fun _ _ _ h => h) (Or.inl ⟨by rfl, ?_⟩) ?_ ?_
                  rotate_left
                  · intro w'
                    go_simp
                    with_reducible rfl
                  rotate_left
                  · simp only [Act.put, List.setIfInBounds_toArray, List.set_cons_zero, List.set_cons_succ, i64_w, i32_w]
                    rfl
                  refine pure_ (i := 5) (N := some 17) (v := ?_) (a' := ?_) #[true, true, true, true, true, true, true, true, false, false, false] rfl rfl (any_of HT_.out (by kernel_rfl)) (fun _ _ _ h => h) (Or.inl ⟨by rfl, ?_⟩) ?_ ?_
                  rotate_left
                  · intro w'
                    go_simp
                    with_reducible rfl
                  rotate_left
                  · simp only [Act.put, List.setIfInBounds_toArray, List.set_cons_zero, List.set_cons_succ, i64_w, i32_w]
                    rfl
                  refine one_ (i := 8) (N := some 20) #[true, true, true, true, true, true, true, true, true, false, false] rfl rfl (one_of HT_.out (by kernel_rfl)) (by decide) (fun K hK => ?_)
                  refine goes_ Tryd.func26 (by kernel_rfl) rfl #[.int .i64 ((rd_T34 l0 x8_1).f1)] (by rfl) rfl rfl (by (try simp only [List.map_toArray, List.map_cons, List.map_nil]); first | done | rfl | (simp only [List.length_drop, List.length_take]; rfl)) ?_
                  with_reducible refine (recantref01_Text.calls k1 ((rd_T34 l0 x8_1).f1) t170 _ A8.out).mono ?_
                  rintro e w' ⟨rfl, ⟨nd, rfl⟩⟩
                  refine ⟨_, rfl, ?_⟩
                  refine hK.out _ _ ⟨(blk_cell BK168.out 0).trans rfl, (blk_cell BK168.out 1).trans rfl, (blk_cell BK168.out 2).trans rfl, (blk_cell BK168.out 3).trans rfl⟩ (fun hHeld => ?_)
                  clear hK K
                  refine norm_ (a' := ?_) ?_ ?_
                  rotate_left
                  · show Act.put _ (some 20) _ = _
                    simp only [Act.put, List.setIfInBounds_toArray, List.set_cons_zero, List.set_cons_succ, i64_w, i32_w]
                    rfl
                  refine pure_ (i := 9) (N := some 21) (v := ?_) (a' := ?_) #[true, true, true, true, true, true, true, true, true, true, false] rfl rfl (any_of HT_.out (by kernel_rfl)) (fun _ _ _ h => h) (Or.inl ⟨by rfl, ?_⟩) ?_ ?_
                  rotate_left
                  · intro w'
                    go_simp
                    with_reducible rfl
                  rotate_left
                  · simp only [Act.put, List.setIfInBounds_toArray, List.set_cons_zero, List.set_cons_succ, i64_w, i32_w]
                    rfl
                  refine pure_ (i := 10) (N := some 3) (v := ?_) (a' := ?_) #[true, true, true, true, true, true, true, true, true, true, true] rfl rfl (any_of HT_.out (by kernel_rfl)) (fun _ _ _ h => h) (Or.inl ⟨by rfl, ?_⟩) ?_ ?_
                  rotate_left
                  · intro w'
                    go_simp
                    with_reducible rfl
                  rotate_left
                  · simp only [Act.put, List.setIfInBounds_toArray, List.set_cons_zero, List.set_cons_succ, i64_w, i32_w]
                    rfl
                  refine done_ (done_of HT_.out (by kernel_rfl)) ?_
                  have hcz17_0 : w16.cell? ⟨gb168, 0, none⟩ = some (.int .i64 ((rd_T34 l0 x8_1).f0)) := (blk_cell BK168.out 0).trans rfl
                  have hcz17_1 : w16.cell? ⟨gb168, 1, none⟩ = some (.int .i64 ((rd_T34 l0 x8_1).f1)) := (blk_cell BK168.out 1).trans rfl
                  have hcz17_2 : w16.cell? ⟨gb168, 2, none⟩ = some (.int .i64 ((rd_T34 l0 x8_1).f2)) := (blk_cell BK168.out 2).trans rfl
                  have hcz17_3 : w16.cell? ⟨gb168, 3, none⟩ = some (.int .i64 ((rd_T34 l0 x8_1).f3)) := (blk_cell BK168.out 3).trans rfl
                  have hfz17_0 := blk_frozen BK168.out 0
                  have hfz17_1 := blk_frozen BK168.out 1
                  have hfz17_2 := blk_frozen BK168.out 2
                  have hfz17_3 := blk_frozen BK168.out 3
                  go_upto_if 24 with (first | ((with_reducible refine gate_callee (f := 48) rfl ?_); refine goesL_ (some 24) rfl rfl Tryd.func48 (by kernel_rfl) rfl #[.int .i64 ((rd_T34 l0 x8_1).f0)] rfl (by (try simp only [List.map_toArray, List.map_cons, List.map_nil]); first | done | rfl | (simp only [List.length_drop, List.length_take]; rfl)) ?_; (with_reducible refine (recantref02_Variable.calls ((rd_T34 l0 x8_1).f0) t171 _ A10.out).mono ?_); rintro e w' ⟨rfl, ⟨nd, rfl⟩⟩; refine ⟨_, rfl, ?_⟩))
                  (try simp only [Act.put, List.setIfInBounds_toArray, List.set_cons_zero, List.set_cons_succ])
                  go_cut [3] (fun v3 wc => ∃ (kq : Nat) (x3_10 : ByteArray), v3 = .string x3_10 ∧ Aside0 (recantref02_Print.j1 kq x3_10 l0 (l0.length : Int) x8_1 ((rd_T34 l0 x8_1).f0) ((rd_T34 l0 x8_1).f1) ((rd_T34 l0 x8_1).f2) ((rd_T34 l0 x8_1).f3) = some r) ∧ Aside0 (kq ≤ k1) ∧ Aside0 (wc.heap[gb168]? = some (.cells #[.int .i64 ((rd_T34 l0 x8_1).f0), .int .i64 ((rd_T34 l0 x8_1).f1), .int .i64 ((rd_T34 l0 x8_1).f2), .int .i64 ((rd_T34 l0 x8_1).f3)] 34 (0, 0))) ∧ Aside0 (Below w.heap.size w wc))
                  case first =>
                    have H := HC11.out
                    clear HC11
                    by_cases c18 : t171 = true
                    · subst c18
                      have H1 : (if (((x3_1 ++ t169) ++ (⟨#[32]⟩ : ByteArray)) ++ t170).size + 1 ≤ 9223372036854775807 then ((recantref01_Text.f k1 ((rd_T34 l0 x8_1).f2)).bind fun t172 => (if ((((x3_1 ++ t169) ++ (⟨#[32]⟩ : ByteArray)) ++ t170) ++ (⟨#[32]⟩ : ByteArray)).size + t172.size ≤ 9223372036854775807 then (recantref02_Print.j1 k1 (((((x3_1 ++ t169) ++ (⟨#[32]⟩ : ByteArray)) ++ t170) ++ (⟨#[32]⟩ : ByteArray)) ++ t172) l0 (l0.length : Int) x8_1 ((rd_T34 l0 x8_1).f0) ((rd_T34 l0 x8_1).f1) ((rd_T34 l0 x8_1).f2) ((rd_T34 l0 x8_1).f3)) else (none))) else (none)) = some r := by rw [if_pos rfl] at H; exact H
                      clear H
                      have H := H1
                      clear H1
                      by_cases c19 : (((x3_1 ++ t169) ++ (⟨#[32]⟩ : ByteArray)) ++ t170).size + 1 ≤ 9223372036854775807
                      · rw [if_pos c19] at H
                        have c19b0 := eq_true c19
                        have c19b1 : decide ((((x3_1 ++ t169) ++ (⟨#[32]⟩ : ByteArray)) ++ t170).size + 1 ≤ 9223372036854775807) = true := decide_eq_true c19
                        try have c19b2 : (9223372036854775807 < (((x3_1 ++ t169) ++ (⟨#[32]⟩ : ByteArray)) ++ t170).size + 1) = False := eq_false (Nat.not_lt.2 c19)
                        try have c19b3 : (9223372036854775807 < x3_1.size + t169.size + 1 + t170.size + 1) = False := eq_false (Nat.not_lt.2 (by have q_ := c19; simp only [ByteArray.size_append] at q_; exact q_))
                        replace H := Option.bind_eq_some_iff.mp H
                        obtain ⟨t172, A200, H⟩ := H
                        replace H : (if ((((x3_1 ++ t169) ++ (⟨#[32]⟩ : ByteArray)) ++ t170) ++ (⟨#[32]⟩ : ByteArray)).size + t172.size ≤ 9223372036854775807 then (recantref02_Print.j1 k1 (((((x3_1 ++ t169) ++ (⟨#[32]⟩ : ByteArray)) ++ t170) ++ (⟨#[32]⟩ : ByteArray)) ++ t172) l0 (l0.length : Int) x8_1 ((rd_T34 l0 x8_1).f0) ((rd_T34 l0 x8_1).f1) ((rd_T34 l0 x8_1).f2) ((rd_T34 l0 x8_1).f3)) else (none)) = some r := H
                        have A20 := Aside0.mk A200
                        clear A200
                        by_cases c21 : ((((x3_1 ++ t169) ++ (⟨#[32]⟩ : ByteArray)) ++ t170) ++ (⟨#[32]⟩ : ByteArray)).size + t172.size ≤ 9223372036854775807
                        · rw [if_pos c21] at H
                          have c21b0 := eq_true c21
                          have c21b1 : decide (((((x3_1 ++ t169) ++ (⟨#[32]⟩ : ByteArray)) ++ t170) ++ (⟨#[32]⟩ : ByteArray)).size + t172.size ≤ 9223372036854775807) = true := decide_eq_true c21
                          try have c21b2 : (9223372036854775807 < ((((x3_1 ++ t169) ++ (⟨#[32]⟩ : ByteArray)) ++ t170) ++ (⟨#[32]⟩ : ByteArray)).size + t172.size) = False := eq_false (Nat.not_lt.2 c21)
                          try have c21b3 : (9223372036854775807 < x3_1.size + t169.size + 1 + t170.size + 1 + t172.size) = False := eq_false (Nat.not_lt.2 (by have q_ := c21; simp only [ByteArray.size_append] at q_; exact q_))
                          have H' := Aside0.mk H
                          clear H
                          have hcz22_0 : w16.cell? ⟨gb168, 0, none⟩ = some (.int .i64 ((rd_T34 l0 x8_1).f0)) := (blk_cell BK168.out 0).trans rfl
                          have hcz22_1 : w16.cell? ⟨gb168, 1, none⟩ = some (.int .i64 ((rd_T34 l0 x8_1).f1)) := (blk_cell BK168.out 1).trans rfl
                          have hcz22_2 : w16.cell? ⟨gb168, 2, none⟩ = some (.int .i64 ((rd_T34 l0 x8_1).f2)) := (blk_cell BK168.out 2).trans rfl
                          have hcz22_3 : w16.cell? ⟨gb168, 3, none⟩ = some (.int .i64 ((rd_T34 l0 x8_1).f3)) := (blk_cell BK168.out 3).trans rfl
                          have hfz22_0 := blk_frozen BK168.out 0
                          have hfz22_1 := blk_frozen BK168.out 1
                          have hfz22_2 := blk_frozen BK168.out 2
                          have hfz22_3 := blk_frozen BK168.out 3
                          go_wp2_with (first | ((with_reducible refine gate_callee (f := 26) rfl ?_); refine goesL_ (some 29) rfl rfl Tryd.func26 (by kernel_rfl) rfl #[.int .i64 ((rd_T34 l0 x8_1).f2)] rfl (by (try simp only [List.map_toArray, List.map_cons, List.map_nil]); first | done | rfl | (simp only [List.length_drop, List.length_take]; rfl)) ?_; (with_reducible refine (recantref01_Text.calls k1 ((rd_T34 l0 x8_1).f2) t172 _ A20.out).mono ?_); rintro e w' ⟨rfl, ⟨nd, rfl⟩⟩; refine ⟨_, rfl, ?_⟩))
                          go_meet
                          case rel => exact ⟨_, (((((x3_1 ++ t169) ++ (⟨#[32]⟩ : ByteArray)) ++ t170) ++ (⟨#[32]⟩ : ByteArray)) ++ t172), (by first | rfl | (simp; done) | (simp [*]; done)), H', ⟨by have := HK1.out; first | omega | exact Nat.le_refl _⟩, ⟨by (with_reducible repeat (first | refine blk_drewN ?_ _ | refine blk_drew ?_ | refine blk_alloc ?_ _)); exact BK168.out⟩, ⟨by repeat (first | (with_reducible first | exact HB.out | apply below_alloc | apply pw_below_drewN | apply below_drew1 | refine below_set ?_ GE168.out) | exact HB.out)⟩⟩
                        · rw [if_neg c21] at H
                          exact absurd H (by simp)
                      · rw [if_neg c19] at H
                        exact absurd H (by simp)
                    · replace c18 := Bool.eq_false_iff.mpr c18
                      subst c18
                      have H1 : (recantref02_Print.j1 k1 (((x3_1 ++ t169) ++ (⟨#[32]⟩ : ByteArray)) ++ t170) l0 (l0.length : Int) x8_1 ((rd_T34 l0 x8_1).f0) ((rd_T34 l0 x8_1).f1) ((rd_T34 l0 x8_1).f2) ((rd_T34 l0 x8_1).f3)) = some r := by rw [if_neg (show ¬ (false = true) by decide)] at H; exact H
                      clear H
                      have H := H1
                      clear H1
                      have H' := Aside0.mk H
                      clear H
                      go_wp2
                      go_meet
                      case rel => exact ⟨_, (((x3_1 ++ t169) ++ (⟨#[32]⟩ : ByteArray)) ++ t170), (by first | rfl | (simp; done) | (simp [*]; done)), H', ⟨by have := HK1.out; first | omega | exact Nat.le_refl _⟩, ⟨by (with_reducible repeat (first | refine blk_drewN ?_ _ | refine blk_drew ?_ | refine blk_alloc ?_ _)); exact BK168.out⟩, ⟨by repeat (first | (with_reducible first | exact HB.out | apply below_alloc | apply pw_below_drewN | apply below_drew1 | refine below_set ?_ GE168.out) | exact HB.out)⟩⟩
                  case rest =>
                    clear HC11
                    try clear c1
                    try clear p1
                    try clear q1
                    try clear hx1
                    try clear c2
                    try clear c2b0
                    try clear p2
                    try clear c3
                    try clear c3b0
                    try clear c4
                    try clear c4b0
                    try clear c6
                    try clear c6b0
                    try clear c6b1
                    try clear c6b2
                    try clear c7
                    try clear c7b0
                    try clear c7b1
                    try clear c7b2
                    try clear c9
                    try clear c9b0
                    try clear c9b1
                    try clear c9b2
                    try clear p16
                    try clear q16
                    try clear hx16
                    try clear c18
                    try clear c19
                    try clear c19b0
                    try clear c19b1
                    try clear c19b2
                    try clear c21
                    try clear c21b0
                    try clear c21b1
                    try clear c21b2
                    try clear hcz13_0
                    try clear hcz13_1
                    try clear hcz13_2
                    try clear hcz13_3
                    try clear hcz17_0
                    try clear hcz17_1
                    try clear hcz17_2
                    try clear hcz17_3
                    try clear hcz22_0
                    try clear hcz22_1
                    try clear hcz22_2
                    try clear hcz22_3
                    try clear hfz13_0
                    try clear hfz13_1
                    try clear hfz13_2
                    try clear hfz13_3
                    try clear hfz17_0
                    try clear hfz17_1
                    try clear hfz17_2
                    try clear hfz17_3
                    try clear hfz22_0
                    try clear hfz22_1
                    try clear hfz22_2
                    try clear hfz22_3
                    try clear hx167_0
                    try clear hx167_1
                    try clear hx167_2
                    try clear hx167_3
                    try clear p167
                    try clear q167
                    obtain ⟨kq, x3_10, rfl, HA, HJ10, BK168, HB⟩ := hcut
                    cases kq with
                    | zero => exact absurd HA.out (by simp [recantref02_Print.j1])
                    | succ kj10 =>
                      have H := HA.out
                      clear HA
                      simp only [recantref02_Print.j1] at H
                      replace H := Option.bind_eq_some_iff.mp H
                      obtain ⟨t173, A230, H⟩ := H
                      replace H : (if t173 = true then (if x3_10.size + 1 ≤ 9223372036854775807 then ((recantref01_Text.f kj10 ((rd_T34 l0 x8_1).f3)).bind fun t174 => (if (x3_10 ++ (⟨#[32]⟩ : ByteArray)).size + t174.size ≤ 9223372036854775807 then (if ((x3_10 ++ (⟨#[32]⟩ : ByteArray)) ++ t174).size + 1 ≤ 9223372036854775807 then (recantref02_Print.l0 kj10 (((x3_10 ++ (⟨#[32]⟩ : ByteArray)) ++ t174) ++ (⟨#[10]⟩ : ByteArray)) l0 (l0.length : Int) (wrap64 (x8_1 + 1))) else (none)) else (none))) else (none)) else (if x3_10.size + 1 ≤ 9223372036854775807 then (recantref02_Print.l0 kj10 (x3_10 ++ (⟨#[10]⟩ : ByteArray)) l0 (l0.length : Int) (wrap64 (x8_1 + 1))) else (none))) = some r := H
                      have A23 := Aside0.mk A230
                      clear A230
                      by_cases c24 : t173 = true
                      · subst c24
                        have H1 : (if x3_10.size + 1 ≤ 9223372036854775807 then ((recantref01_Text.f kj10 ((rd_T34 l0 x8_1).f3)).bind fun t174 => (if (x3_10 ++ (⟨#[32]⟩ : ByteArray)).size + t174.size ≤ 9223372036854775807 then (if ((x3_10 ++ (⟨#[32]⟩ : ByteArray)) ++ t174).size + 1 ≤ 9223372036854775807 then (recantref02_Print.l0 kj10 (((x3_10 ++ (⟨#[32]⟩ : ByteArray)) ++ t174) ++ (⟨#[10]⟩ : ByteArray)) l0 (l0.length : Int) (wrap64 (x8_1 + 1))) else (none)) else (none))) else (none)) = some r := by rw [if_pos rfl] at H; exact H
                        clear H
                        have H := H1
                        clear H1
                        by_cases c25 : x3_10.size + 1 ≤ 9223372036854775807
                        · rw [if_pos c25] at H
                          have c25b0 := eq_true c25
                          have c25b1 : decide (x3_10.size + 1 ≤ 9223372036854775807) = true := decide_eq_true c25
                          try have c25b2 : (9223372036854775807 < x3_10.size + 1) = False := eq_false (Nat.not_lt.2 c25)
                          replace H := Option.bind_eq_some_iff.mp H
                          obtain ⟨t174, A260, H⟩ := H
                          replace H : (if (x3_10 ++ (⟨#[32]⟩ : ByteArray)).size + t174.size ≤ 9223372036854775807 then (if ((x3_10 ++ (⟨#[32]⟩ : ByteArray)) ++ t174).size + 1 ≤ 9223372036854775807 then (recantref02_Print.l0 kj10 (((x3_10 ++ (⟨#[32]⟩ : ByteArray)) ++ t174) ++ (⟨#[10]⟩ : ByteArray)) l0 (l0.length : Int) (wrap64 (x8_1 + 1))) else (none)) else (none)) = some r := H
                          have A26 := Aside0.mk A260
                          clear A260
                          by_cases c27 : (x3_10 ++ (⟨#[32]⟩ : ByteArray)).size + t174.size ≤ 9223372036854775807
                          · rw [if_pos c27] at H
                            have c27b0 := eq_true c27
                            have c27b1 : decide ((x3_10 ++ (⟨#[32]⟩ : ByteArray)).size + t174.size ≤ 9223372036854775807) = true := decide_eq_true c27
                            try have c27b2 : (9223372036854775807 < (x3_10 ++ (⟨#[32]⟩ : ByteArray)).size + t174.size) = False := eq_false (Nat.not_lt.2 c27)
                            try have c27b3 : (9223372036854775807 < x3_10.size + 1 + t174.size) = False := eq_false (Nat.not_lt.2 (by have q_ := c27; simp only [ByteArray.size_append] at q_; exact q_))
                            by_cases c28 : ((x3_10 ++ (⟨#[32]⟩ : ByteArray)) ++ t174).size + 1 ≤ 9223372036854775807
                            · rw [if_pos c28] at H
                              have c28b0 := eq_true c28
                              have c28b1 : decide (((x3_10 ++ (⟨#[32]⟩ : ByteArray)) ++ t174).size + 1 ≤ 9223372036854775807) = true := decide_eq_true c28
                              try have c28b2 : (9223372036854775807 < ((x3_10 ++ (⟨#[32]⟩ : ByteArray)) ++ t174).size + 1) = False := eq_false (Nat.not_lt.2 c28)
                              try have c28b3 : (9223372036854775807 < x3_10.size + 1 + t174.size + 1) = False := eq_false (Nat.not_lt.2 (by have q_ := c28; simp only [ByteArray.size_append] at q_; exact q_))
                              have H' := Aside0.mk H
                              clear H
                              have hcz29_0 : wc.cell? ⟨gb168, 0, none⟩ = some (.int .i64 ((rd_T34 l0 x8_1).f0)) := (blk_cell BK168.out 0).trans rfl
                              have hcz29_1 : wc.cell? ⟨gb168, 1, none⟩ = some (.int .i64 ((rd_T34 l0 x8_1).f1)) := (blk_cell BK168.out 1).trans rfl
                              have hcz29_2 : wc.cell? ⟨gb168, 2, none⟩ = some (.int .i64 ((rd_T34 l0 x8_1).f2)) := (blk_cell BK168.out 2).trans rfl
                              have hcz29_3 : wc.cell? ⟨gb168, 3, none⟩ = some (.int .i64 ((rd_T34 l0 x8_1).f3)) := (blk_cell BK168.out 3).trans rfl
                              have hfz29_0 := blk_frozen BK168.out 0
                              have hfz29_1 := blk_frozen BK168.out 1
                              have hfz29_2 := blk_frozen BK168.out 2
                              have hfz29_3 := blk_frozen BK168.out 3
                              go_wp2_with (first | ((with_reducible refine gate_callee (f := 49) rfl ?_); refine goesL_ (some 33) rfl rfl Tryd.func49 (by kernel_rfl) rfl #[.int .i64 ((rd_T34 l0 x8_1).f0)] rfl (by (try simp only [List.map_toArray, List.map_cons, List.map_nil]); first | done | rfl | (simp only [List.length_drop, List.length_take]; rfl)) ?_; (with_reducible refine (recantref02_Value.calls ((rd_T34 l0 x8_1).f0) true _ A23.out).mono ?_); rintro e w' ⟨rfl, ⟨nd, rfl⟩⟩; refine ⟨_, rfl, ?_⟩) | ((with_reducible refine gate_callee (f := 26) rfl ?_); refine goesL_ (some 38) rfl rfl Tryd.func26 (by kernel_rfl) rfl #[.int .i64 ((rd_T34 l0 x8_1).f3)] rfl (by (try simp only [List.map_toArray, List.map_cons, List.map_nil]); first | done | rfl | (simp only [List.length_drop, List.length_take]; rfl)) ?_; (with_reducible refine (recantref01_Text.calls kj10 ((rd_T34 l0 x8_1).f3) t174 _ A26.out).mono ?_); rintro e w' ⟨rfl, ⟨nd, rfl⟩⟩; refine ⟨_, rfl, ?_⟩))
                              go_roundg kj10
                              case measure => have := HK1.out; have := HJ10.out; omega
                              case rel => exact ⟨(((x3_10 ++ (⟨#[32]⟩ : ByteArray)) ++ t174) ++ (⟨#[10]⟩ : ByteArray)), (wrap64 (x8_1 + 1)), (by first | rfl | (simp; done) | (simp [*]; done)), (by first | rfl | (simp; done) | (simp [*]; done)), H', ⟨by have := HK1.out; have := HJ10.out; omega⟩, ⟨by repeat (first | (with_reducible first | exact HB.out | apply below_alloc | apply pw_below_drewN | apply below_drew1 | refine below_set ?_ GE168.out) | exact HB.out)⟩⟩
                            · rw [if_neg c28] at H
                              exact absurd H (by simp)
                          · rw [if_neg c27] at H
                            exact absurd H (by simp)
                        · rw [if_neg c25] at H
                          exact absurd H (by simp)
                      · replace c24 := Bool.eq_false_iff.mpr c24
                        subst c24
                        have H1 : (if x3_10.size + 1 ≤ 9223372036854775807 then (recantref02_Print.l0 kj10 (x3_10 ++ (⟨#[10]⟩ : ByteArray)) l0 (l0.length : Int) (wrap64 (x8_1 + 1))) else (none)) = some r := by rw [if_neg (show ¬ (false = true) by decide)] at H; exact H
                        clear H
                        have H := H1
                        clear H1
                        by_cases c30 : x3_10.size + 1 ≤ 9223372036854775807
                        · rw [if_pos c30] at H
                          have c30b0 := eq_true c30
                          have c30b1 : decide (x3_10.size + 1 ≤ 9223372036854775807) = true := decide_eq_true c30
                          try have c30b2 : (9223372036854775807 < x3_10.size + 1) = False := eq_false (Nat.not_lt.2 c30)
                          have H' := Aside0.mk H
                          clear H
                          have hcz31_0 : wc.cell? ⟨gb168, 0, none⟩ = some (.int .i64 ((rd_T34 l0 x8_1).f0)) := (blk_cell BK168.out 0).trans rfl
                          have hcz31_1 : wc.cell? ⟨gb168, 1, none⟩ = some (.int .i64 ((rd_T34 l0 x8_1).f1)) := (blk_cell BK168.out 1).trans rfl
                          have hcz31_2 : wc.cell? ⟨gb168, 2, none⟩ = some (.int .i64 ((rd_T34 l0 x8_1).f2)) := (blk_cell BK168.out 2).trans rfl
                          have hcz31_3 : wc.cell? ⟨gb168, 3, none⟩ = some (.int .i64 ((rd_T34 l0 x8_1).f3)) := (blk_cell BK168.out 3).trans rfl
                          have hfz31_0 := blk_frozen BK168.out 0
                          have hfz31_1 := blk_frozen BK168.out 1
                          have hfz31_2 := blk_frozen BK168.out 2
                          have hfz31_3 := blk_frozen BK168.out 3
                          go_wp2_with (first | ((with_reducible refine gate_callee (f := 49) rfl ?_); refine goesL_ (some 33) rfl rfl Tryd.func49 (by kernel_rfl) rfl #[.int .i64 ((rd_T34 l0 x8_1).f0)] rfl (by (try simp only [List.map_toArray, List.map_cons, List.map_nil]); first | done | rfl | (simp only [List.length_drop, List.length_take]; rfl)) ?_; (with_reducible refine (recantref02_Value.calls ((rd_T34 l0 x8_1).f0) false _ A23.out).mono ?_); rintro e w' ⟨rfl, ⟨nd, rfl⟩⟩; refine ⟨_, rfl, ?_⟩))
                          go_roundg kj10
                          case measure => have := HK1.out; have := HJ10.out; omega
                          case rel => exact ⟨(x3_10 ++ (⟨#[10]⟩ : ByteArray)), (wrap64 (x8_1 + 1)), (by first | rfl | (simp; done) | (simp [*]; done)), (by first | rfl | (simp; done) | (simp [*]; done)), H', ⟨by have := HK1.out; have := HJ10.out; omega⟩, ⟨by repeat (first | (with_reducible first | exact HB.out | apply below_alloc | apply pw_below_drewN | apply below_drew1 | refine below_set ?_ GE168.out) | exact HB.out)⟩⟩
                        · rw [if_neg c30] at H
                          exact absurd H (by simp)
                · rw [if_neg c9] at H
                  exact absurd H (by simp)
              · rw [if_neg c7] at H
                exact absurd H (by simp)
            · rw [if_neg c6] at H
              exact absurd H (by simp)
          · rw [if_neg c4] at H
            exact absurd H (by simp)
        · rw [if_neg c3] at H
          exact absurd H (by simp)
      · rw [if_neg c2] at H
        have c2b0 : decide (x8_1 < (l0.length : Int)) = false := decide_eq_false c2
        clear c2
        obtain rfl := Option.some.inj H
        go_wp2
        go_ret
        exact ⟨by first | rfl | (simp [errW_none, errW_some] <;> rfl) | (simp [*, errW_none, errW_some] <;> rfl), by repeat (first | (with_reducible first | exact HB.out | apply below_alloc | apply pw_below_drewN | apply below_drew1) | exact HB.out)⟩

end Go.Proofs.YthkpocgbinmeiaaDoor.P

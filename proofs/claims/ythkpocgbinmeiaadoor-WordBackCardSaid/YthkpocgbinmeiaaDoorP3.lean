-- Written by gprint.py, a program of this session's: the kit's print with given functions beside. Not trusted: Lean checks it.
import Derived.Test.YthkpocgbinmeiaaDoorP0
import Derived.Test.YthkpocgbinmeiaaDoorP1
import Derived.Test.YthkpocgbinmeiaaDoorP2
import Derived.Test.YthkpocgbinmeiaaDoorGAny
import Derived.Test.YthkpocgbinmeiaaDoorGInt
namespace Go.Proofs.YthkpocgbinmeiaaDoor.P
open Go.RowKit Go.Proofs.YthkpocgbinmeiaaDoorW.PrintWords Go.Proofs.YthkpocgbinmeiaaDoorW.PrintLast Go.Proofs.YthkpocgbinmeiaaDoorW.PrintMore
attribute [local go_sem] max2_int min2_int max_two min_two max_three min_three max_four min_four   -- for this text's walks alone
set_option linter.unusedVariables false
set_option linter.unusedSimpArgs false

/-! ### recantlaw01_WordBack: function 9 -/
mutual
def recantlaw01_WordBack.j0 : Nat → ByteArray → Option (Bool)
  | 0, _ => none
  | k + 1, x0 => (word_Int.f x0).bind fun bt125 => (if bt125.2 = 0 then ((word_Text.f bt125.1).bind fun bt127 => (if bt127.2 = 0 then (if bt127.1.toList = x0.toList then (recantlaw01_WordBack.j1 k x0) else (some false)) else (some false))) else (recantlaw01_WordBack.j1 k x0))
def recantlaw01_WordBack.j1 : Nat → ByteArray → Option (Bool)
  | 0, _ => none
  | k + 1, x0 => (word_Words.f k x0).bind fun bt129 => (if (bt129.1.length : Int) = (bt129.2.length : Int) then ((recantlaw01_alive.f k).bind fun t135 => (recantlaw01_WordBack.j2 k x0 bt129.1 bt129.2 (!t135))) else (recantlaw01_WordBack.j2 k x0 bt129.1 bt129.2 true))
def recantlaw01_WordBack.j2 : Nat → ByteArray → List ByteArray → List Int → Bool → Option (Bool)
  | 0, _, _, _, _ => none
  | k + 1, x0, x13, x14, x74 => if x74 = true then (some false) else (recantlaw01_WordBack.l0 k x0 x14 (-1) x13 (x13.length : Int) 0)
def recantlaw01_WordBack.l0 : Nat → ByteArray → List Int → Int → List ByteArray → Int → Int → Option (Bool)
  | 0, _, _, _, _, _, _ => none
  | k + 1, x0, x14, x15, x75, x76, x77 => if x77 < x76 then (if 0 ≤ x77 then (if x77 < (x75.length : Int) then (if x77 < (x14.length : Int) then (if (rd x14 x77) ≤ x15 then (some false) else (if 0 ≤ (mn (rd x14 x77) (x0.size : Int)) then (if (mn (rd x14 x77) (x0.size : Int)) ≤ (x0.size : Int) then ((strings_HasPrefix.f (x0.extract ((mn (rd x14 x77) (x0.size : Int)) : Int).toNat x0.size) (rdOf ByteArray.empty x75 x77)).bind fun t139 => (if t139 = true then (if (rdOf ByteArray.empty x75 x77).toList = ([] : List UInt8) then (some false) else ((strings_ContainsAny.f (rdOf ByteArray.empty x75 x77) (⟨#[32, 9, 35]⟩ : ByteArray)).bind fun t140 => (if t140 = true then (some false) else (recantlaw01_WordBack.l0 k x0 x14 (wrap64 ((rd x14 x77) + ((rdOf ByteArray.empty x75 x77).size : Int))) x75 x76 (wrap64 (x77 + 1)))))) else (some false))) else (none)) else (none))) else (none)) else (none)) else (none)) else (some true)
end
def recantlaw01_WordBack.f (k : Nat) (a0 : ByteArray) (a1 : Int) : Option (Bool) := if 0 ≤ (mn (a0.size : Int) 400) then (if (mn (a0.size : Int) 400) ≤ (a0.size : Int) then ((word_Text.f a1).bind fun bt121 => (if bt121.2 = 0 then ((word_Int.f bt121.1).bind fun bt123 => (if bt123.2 = 0 then (if bt123.1 = a1 then (recantlaw01_WordBack.j0 k (a0.extract 0 ((mn (a0.size : Int) 400) : Int).toNat)) else (some false)) else (some false))) else (recantlaw01_WordBack.j0 k (a0.extract 0 ((mn (a0.size : Int) 400) : Int).toNat)))) else (none)) else (none)
theorem recantlaw01_WordBack.mono_l : ∀ k, (∀ y0, LeO (recantlaw01_WordBack.j0 k y0) (recantlaw01_WordBack.j0 (k + 1) y0)) ∧ (∀ y0, LeO (recantlaw01_WordBack.j1 k y0) (recantlaw01_WordBack.j1 (k + 1) y0)) ∧ (∀ y0 y1 y2 y3, LeO (recantlaw01_WordBack.j2 k y0 y1 y2 y3) (recantlaw01_WordBack.j2 (k + 1) y0 y1 y2 y3)) ∧ (∀ y0 y1 y2 y3 y4 y5, LeO (recantlaw01_WordBack.l0 k y0 y1 y2 y3 y4 y5) (recantlaw01_WordBack.l0 (k + 1) y0 y1 y2 y3 y4 y5))
  | 0 => ⟨fun _ r h => by simp [recantlaw01_WordBack.j0] at h, fun _ r h => by simp [recantlaw01_WordBack.j1] at h, fun _ _ _ _ r h => by simp [recantlaw01_WordBack.j2] at h, fun _ _ _ _ _ _ r h => by simp [recantlaw01_WordBack.l0] at h⟩
  | k + 1 => by
    obtain ⟨ih0, ih1, ih2, ih3⟩ := recantlaw01_WordBack.mono_l k
    refine ⟨?_, ?_, ?_, ?_⟩
    · intro y0
      unfold recantlaw01_WordBack.j0
      repeat' first
      | (with_reducible exact ih0 _)
      | (with_reducible exact ih1 _)
      | (with_reducible exact ih2 _ _ _ _)
      | (with_reducible exact ih3 _ _ _ _ _ _)
      | (with_reducible exact recantlaw01_alive.mono _)
      | (with_reducible exact word_Words.mono _ _)
      | (with_reducible exact LeO.refl _)
      | (with_reducible exact LeO.none _)
      | (with_reducible refine LeO.ite ?_ ?_)
      | (with_reducible refine LeO.bind ?_ (fun _ => ?_))
      | exact ih0 _
      | exact ih1 _
      | exact ih2 _ _ _ _
      | exact ih3 _ _ _ _ _ _
      | exact recantlaw01_alive.mono _
      | exact word_Words.mono _ _
      | exact LeO.none _
      | refine LeO.ite ?_ ?_
      | refine LeO.bind ?_ (fun _ => ?_)
    · intro y0
      unfold recantlaw01_WordBack.j1
      repeat' first
      | (with_reducible exact ih0 _)
      | (with_reducible exact ih1 _)
      | (with_reducible exact ih2 _ _ _ _)
      | (with_reducible exact ih3 _ _ _ _ _ _)
      | (with_reducible exact recantlaw01_alive.mono _)
      | (with_reducible exact word_Words.mono _ _)
      | (with_reducible exact LeO.refl _)
      | (with_reducible exact LeO.none _)
      | (with_reducible refine LeO.ite ?_ ?_)
      | (with_reducible refine LeO.bind ?_ (fun _ => ?_))
      | exact ih0 _
      | exact ih1 _
      | exact ih2 _ _ _ _
      | exact ih3 _ _ _ _ _ _
      | exact recantlaw01_alive.mono _
      | exact word_Words.mono _ _
      | exact LeO.none _
      | refine LeO.ite ?_ ?_
      | refine LeO.bind ?_ (fun _ => ?_)
    · intro y0 y1 y2 y3
      unfold recantlaw01_WordBack.j2
      repeat' first
      | (with_reducible exact ih0 _)
      | (with_reducible exact ih1 _)
      | (with_reducible exact ih2 _ _ _ _)
      | (with_reducible exact ih3 _ _ _ _ _ _)
      | (with_reducible exact recantlaw01_alive.mono _)
      | (with_reducible exact word_Words.mono _ _)
      | (with_reducible exact LeO.refl _)
      | (with_reducible exact LeO.none _)
      | (with_reducible refine LeO.ite ?_ ?_)
      | (with_reducible refine LeO.bind ?_ (fun _ => ?_))
      | exact ih0 _
      | exact ih1 _
      | exact ih2 _ _ _ _
      | exact ih3 _ _ _ _ _ _
      | exact recantlaw01_alive.mono _
      | exact word_Words.mono _ _
      | exact LeO.none _
      | refine LeO.ite ?_ ?_
      | refine LeO.bind ?_ (fun _ => ?_)
    · intro y0 y1 y2 y3 y4 y5
      unfold recantlaw01_WordBack.l0
      repeat' first
      | (with_reducible exact ih0 _)
      | (with_reducible exact ih1 _)
      | (with_reducible exact ih2 _ _ _ _)
      | (with_reducible exact ih3 _ _ _ _ _ _)
      | (with_reducible exact recantlaw01_alive.mono _)
      | (with_reducible exact word_Words.mono _ _)
      | (with_reducible exact LeO.refl _)
      | (with_reducible exact LeO.none _)
      | (with_reducible refine LeO.ite ?_ ?_)
      | (with_reducible refine LeO.bind ?_ (fun _ => ?_))
      | exact ih0 _
      | exact ih1 _
      | exact ih2 _ _ _ _
      | exact ih3 _ _ _ _ _ _
      | exact recantlaw01_alive.mono _
      | exact word_Words.mono _ _
      | exact LeO.none _
      | refine LeO.ite ?_ ?_
      | refine LeO.bind ?_ (fun _ => ?_)
theorem recantlaw01_WordBack.mono : ∀ a0 a1 k, LeO (recantlaw01_WordBack.f k a0 a1) (recantlaw01_WordBack.f (k + 1) a0 a1) := by
  intro a0 a1 k
  obtain ⟨ih0, ih1, ih2, ih3⟩ := recantlaw01_WordBack.mono_l k
  unfold recantlaw01_WordBack.f
  repeat' first
      | (with_reducible exact ih0 _)
      | (with_reducible exact ih1 _)
      | (with_reducible exact ih2 _ _ _ _)
      | (with_reducible exact ih3 _ _ _ _ _ _)
      | (with_reducible exact recantlaw01_alive.mono _)
      | (with_reducible exact word_Words.mono _ _)
      | (with_reducible exact LeO.refl _)
      | (with_reducible exact LeO.none _)
      | (with_reducible refine LeO.ite ?_ ?_)
      | (with_reducible refine LeO.bind ?_ (fun _ => ?_))
      | exact ih0 _
      | exact ih1 _
      | exact ih2 _ _ _ _
      | exact ih3 _ _ _ _ _ _
      | exact recantlaw01_alive.mono _
      | exact word_Words.mono _ _
      | exact LeO.none _
      | refine LeO.ite ?_ ?_
      | refine LeO.bind ?_ (fun _ => ?_)
set_option maxHeartbeats 8000000 in
set_option maxRecDepth 100000 in
theorem recantlaw01_WordBack.calls (k : Nat) (a0 : ByteArray) (a1 : Int) (r : Bool) (w : World) (h : recantlaw01_WordBack.f k a0 a1 = some r) (hT : ITab w) :
    Calls Tryd.prog 9 #[.string a0, .int .i64 a1] w fun e w' => e = .returned (.bool r) ∧ Below w.heap.size w w' := by
  have HTAB := Aside0.mk hT
  clear hT
  have HB := Aside0.mk (Below.refl w.heap.size w)
  have H : (if 0 ≤ (mn (a0.size : Int) 400) then (if (mn (a0.size : Int) 400) ≤ (a0.size : Int) then ((word_Text.f a1).bind fun bt121 => (if bt121.2 = 0 then ((word_Int.f bt121.1).bind fun bt123 => (if bt123.2 = 0 then (if bt123.1 = a1 then (recantlaw01_WordBack.j0 k (a0.extract 0 ((mn (a0.size : Int) 400) : Int).toNat)) else (some false)) else (some false))) else (recantlaw01_WordBack.j0 k (a0.extract 0 ((mn (a0.size : Int) 400) : Int).toNat)))) else (none)) else (none)) = some r := h
  clear h
  obtain ⟨ji3, hji3⟩ : ∃ j_ : Int, (mn (a0.size : Int) 400) = j_ := ⟨_, rfl⟩
  replace H : (if 0 ≤ (ji3) then (if (ji3) ≤ (a0.size : Int) then ((word_Text.f a1).bind fun bt121 => (if bt121.2 = 0 then ((word_Int.f bt121.1).bind fun bt123 => (if bt123.2 = 0 then (if bt123.1 = a1 then (recantlaw01_WordBack.j0 k (a0.extract 0 ((ji3) : Int).toNat)) else (some false)) else (some false))) else (recantlaw01_WordBack.j0 k (a0.extract 0 ((ji3) : Int).toNat)))) else (none)) else (none)) = some r := by first | (rw [hji3] at H; exact H) | (simp only [hji3] at H ⊢; exact H)
  (try (have hji3h : ji3 ≤ 400 := by (rw [← hji3]; unfold mn; (repeat' split) <;> omega)))
  (try (have hji3g : ji3 ≤ 64 := by omega))
  (try (have hji3l : 0 ≤ ji3 := by (rw [← hji3]; unfold mn; (repeat' split) <;> omega)))
  (try (have hji3m : 0 ≤ ji3 := by omega))
  have hji3_ : (if 400 < (a0.size : Int) then 400 else (a0.size : Int)) = ji3 := hji3
  obtain ⟨b0, hb0⟩ : ∃ b_ : ByteArray, (a0.extract 0 ((ji3) : Int).toNat) = b_ := ⟨_, rfl⟩
  rw [hb0] at H
  by_cases c4 : 0 ≤ (ji3)
  · rw [if_pos c4] at H
    have c4b0 := eq_true c4
    have c4b1 : decide (0 ≤ (ji3)) = true := decide_eq_true c4
    clear c4
    by_cases c5 : (ji3) ≤ (a0.size : Int)
    · rw [if_pos c5] at H
      have c5b0 := eq_true c5
      have c5b1 : decide ((ji3) ≤ (a0.size : Int)) = true := decide_eq_true c5
      clear c5
      replace H := Option.bind_eq_some_iff.mp H
      obtain ⟨⟨t121, t122⟩, A60, H⟩ := H
      replace H : (if t122 = 0 then ((word_Int.f t121).bind fun bt123 => (if bt123.2 = 0 then (if bt123.1 = a1 then (recantlaw01_WordBack.j0 k b0) else (some false)) else (some false))) else (recantlaw01_WordBack.j0 k b0)) = some r := H
      have A6 := Aside0.mk A60
      clear A60
      have HC7 := Aside0.mk H
      clear H
      go_enter Tryd.func9, Tryd.ntmps9
      go_upto_if 29 with (first | ((with_reducible refine gate_callee (f := 22) rfl ?_); refine goesL_ (some 25) rfl rfl Tryd.func22 (by kernel_rfl) rfl #[.int .i64 a1] rfl (by (try simp only [List.map_toArray, List.map_cons, List.map_nil]); first | done | rfl | (simp only [List.length_drop, List.length_take]; rfl)) ?_; (with_reducible refine (word_Text.calls a1 t121 t122 _ A6.out (ITab.below HTAB.out (by repeat (first | (with_reducible first | exact HB.out | apply below_alloc | apply pw_below_drewN | apply below_drew1) | exact HB.out)))).mono ?_); rintro e w8 ⟨rfl, hb⟩; refine ⟨_, rfl, ?_⟩; have n0_ := Aside0.mk (below_step (by repeat (first | (with_reducible first | exact HB.out | apply below_alloc | apply pw_below_drewN | apply below_drew1) | exact HB.out)) hb); clear HB; have HB := n0_; clear n0_; (try clear hb); (try clear hb2); (try clear hk); (try clear hi)))
      (try simp only [Act.put, List.setIfInBounds_toArray, List.set_cons_zero, List.set_cons_succ])
      go_cut [] (fun wc => ∃ (kq : Nat), Aside0 (recantlaw01_WordBack.j0 kq b0 = some r) ∧ Aside0 (kq ≤ k) ∧ Aside0 (Below w.heap.size w wc))
      case first =>
        have H := HC7.out
        clear HC7
        by_cases c9 : t122 = 0
        · rw [if_pos c9] at H
          have c9b0 : (t122 == 0) = true := beq_iff_eq.mpr c9
          have c9b1 : (t122 != 0) = false := bne_eq_false_iff_eq.mpr c9
          clear c9
          (first | rw [c9b0] | (simp only [i64_w, i32_w]; rw [c9b0]) | skip)
          replace H := Option.bind_eq_some_iff.mp H
          obtain ⟨⟨t123, t124⟩, A100, H⟩ := H
          replace H : (if t124 = 0 then (if t123 = a1 then (recantlaw01_WordBack.j0 k b0) else (some false)) else (some false)) = some r := H
          have A10 := Aside0.mk A100
          clear A100
          by_cases c11 : t124 = 0
          · rw [if_pos c11] at H
            have c11b0 : (t124 == 0) = true := beq_iff_eq.mpr c11
            have c11b1 : (t124 != 0) = false := bne_eq_false_iff_eq.mpr c11
            clear c11
            by_cases c12 : t123 = a1
            · rw [if_pos c12] at H
              have c12b0 : (t123 == a1) = true := beq_iff_eq.mpr c12
              have c12b1 : (t123 != a1) = false := bne_eq_false_iff_eq.mpr c12
              clear c12
              have H' := Aside0.mk H
              clear H
              go_wp2_with (first | ((with_reducible refine gate_callee (f := 21) rfl ?_); refine goesL_ (some 32) rfl rfl Tryd.func21 (by kernel_rfl) rfl #[.string t121] rfl (by (try simp only [List.map_toArray, List.map_cons, List.map_nil]); first | done | rfl | (simp only [List.length_drop, List.length_take]; rfl)) ?_; (with_reducible refine (word_Int.calls t121 t123 t124 _ A10.out).mono ?_); rintro e w13 ⟨rfl, hb⟩; refine ⟨_, rfl, ?_⟩; have n0_ := Aside0.mk (below_step (by repeat (first | (with_reducible first | exact HB.out | apply below_alloc | apply pw_below_drewN | apply below_drew1) | exact HB.out)) hb); clear HB; have HB := n0_; clear n0_; (try clear hb); (try clear hb2); (try clear hk); (try clear hi)))
              go_meet
              case rel => exact ⟨_, H', ⟨by first | omega | exact Nat.le_refl _⟩, ⟨by repeat (first | (with_reducible first | exact HB.out | apply below_alloc | apply pw_below_drewN | apply below_drew1) | exact HB.out)⟩⟩
            · rw [if_neg c12] at H
              have c12b0 : (t123 == a1) = false := beq_eq_false_iff_ne.mpr c12
              have c12b1 : (t123 != a1) = true := bne_iff_ne.mpr c12
              obtain rfl := Option.some.inj H
              go_wp2_with (first | ((with_reducible refine gate_callee (f := 21) rfl ?_); refine goesL_ (some 32) rfl rfl Tryd.func21 (by kernel_rfl) rfl #[.string t121] rfl (by (try simp only [List.map_toArray, List.map_cons, List.map_nil]); first | done | rfl | (simp only [List.length_drop, List.length_take]; rfl)) ?_; (with_reducible refine (word_Int.calls t121 t123 t124 _ A10.out).mono ?_); rintro e w14 ⟨rfl, hb⟩; refine ⟨_, rfl, ?_⟩; have n0_ := Aside0.mk (below_step (by repeat (first | (with_reducible first | exact HB.out | apply below_alloc | apply pw_below_drewN | apply below_drew1) | exact HB.out)) hb); clear HB; have HB := n0_; clear n0_; (try clear hb); (try clear hb2); (try clear hk); (try clear hi)))
              go_ret
              exact ⟨by first | rfl | (simp [errW_none, errW_some] <;> rfl) | (simp only [← hji3]; first | rfl | (simp [errW_none, errW_some] <;> rfl)) | (simp [*, errW_none, errW_some] <;> rfl), by repeat (first | (with_reducible first | exact HB.out | apply below_alloc | apply pw_below_drewN | apply below_drew1) | exact HB.out)⟩
          · rw [if_neg c11] at H
            have c11b0 : (t124 == 0) = false := beq_eq_false_iff_ne.mpr c11
            have c11b1 : (t124 != 0) = true := bne_iff_ne.mpr c11
            obtain rfl := Option.some.inj H
            go_wp2_with (first | ((with_reducible refine gate_callee (f := 21) rfl ?_); refine goesL_ (some 32) rfl rfl Tryd.func21 (by kernel_rfl) rfl #[.string t121] rfl (by (try simp only [List.map_toArray, List.map_cons, List.map_nil]); first | done | rfl | (simp only [List.length_drop, List.length_take]; rfl)) ?_; (with_reducible refine (word_Int.calls t121 t123 t124 _ A10.out).mono ?_); rintro e w15 ⟨rfl, hb⟩; refine ⟨_, rfl, ?_⟩; have n0_ := Aside0.mk (below_step (by repeat (first | (with_reducible first | exact HB.out | apply below_alloc | apply pw_below_drewN | apply below_drew1) | exact HB.out)) hb); clear HB; have HB := n0_; clear n0_; (try clear hb); (try clear hb2); (try clear hk); (try clear hi)))
            go_ret
            exact ⟨by first | rfl | (simp [errW_none, errW_some] <;> rfl) | (simp only [← hji3]; first | rfl | (simp [errW_none, errW_some] <;> rfl)) | (simp [*, errW_none, errW_some] <;> rfl), by repeat (first | (with_reducible first | exact HB.out | apply below_alloc | apply pw_below_drewN | apply below_drew1) | exact HB.out)⟩
        · rw [if_neg c9] at H
          have c9b0 : (t122 == 0) = false := beq_eq_false_iff_ne.mpr c9
          have c9b1 : (t122 != 0) = true := bne_iff_ne.mpr c9
          (first | rw [c9b0] | (simp only [i64_w, i32_w]; rw [c9b0]) | skip)
          have H' := Aside0.mk H
          clear H
          go_wp2
          go_meet
          case rel => exact ⟨_, H', ⟨by first | omega | exact Nat.le_refl _⟩, ⟨by repeat (first | (with_reducible first | exact HB.out | apply below_alloc | apply pw_below_drewN | apply below_drew1) | exact HB.out)⟩⟩
      case rest =>
        clear HC7
        try clear c1
        try clear c2
        try clear p2
        try clear c4
        try clear c4b0
        try clear c4b1
        try clear c5
        try clear c5b0
        try clear c5b1
        try clear c9
        try clear c9b0
        try clear c9b1
        try clear c11
        try clear c11b0
        try clear c11b1
        try clear c12
        try clear c12b0
        try clear c12b1
        obtain ⟨kq, HA, HJ6, HB⟩ := hcut
        cases kq with
        | zero => exact absurd HA.out (by simp [recantlaw01_WordBack.j0])
        | succ kj6 =>
          have H := HA.out
          clear HA
          simp only [recantlaw01_WordBack.j0] at H
          replace H := Option.bind_eq_some_iff.mp H
          obtain ⟨⟨t125, t126⟩, A160, H⟩ := H
          replace H : (if t126 = 0 then ((word_Text.f t125).bind fun bt127 => (if bt127.2 = 0 then (if bt127.1.toList = b0.toList then (recantlaw01_WordBack.j1 kj6 b0) else (some false)) else (some false))) else (recantlaw01_WordBack.j1 kj6 b0)) = some r := H
          have A16 := Aside0.mk A160
          clear A160
          have HC17 := Aside0.mk H
          clear H
          go_upto_if 48 with (first | ((with_reducible refine gate_callee (f := 21) rfl ?_); refine goesL_ (some 44) rfl rfl Tryd.func21 (by kernel_rfl) rfl #[.string b0] rfl (by (try simp only [List.map_toArray, List.map_cons, List.map_nil]); first | done | (simp only [hji3]; rfl) | rfl | (simp only [List.length_drop, List.length_take]; rfl)) ?_; (with_reducible refine (word_Int.calls b0 t125 t126 _ A16.out).mono ?_); rintro e w18 ⟨rfl, hb⟩; refine ⟨_, rfl, ?_⟩; have n0_ := Aside0.mk (below_step (by repeat (first | (with_reducible first | exact HB.out | apply below_alloc | apply pw_below_drewN | apply below_drew1) | exact HB.out)) hb); clear HB; have HB := n0_; clear n0_; (try clear hb); (try clear hb2); (try clear hk); (try clear hi)))
          (try simp only [Act.put, List.setIfInBounds_toArray, List.set_cons_zero, List.set_cons_succ])
          go_cut [] (fun wc => ∃ (kq : Nat), Aside0 (recantlaw01_WordBack.j1 kq b0 = some r) ∧ Aside0 (kq ≤ kj6) ∧ Aside0 (Below w.heap.size w wc))
          case first =>
            have H := HC17.out
            clear HC17
            by_cases c19 : t126 = 0
            · rw [if_pos c19] at H
              have c19b0 : (t126 == 0) = true := beq_iff_eq.mpr c19
              have c19b1 : (t126 != 0) = false := bne_eq_false_iff_eq.mpr c19
              clear c19
              (first | rw [c19b0] | (simp only [i64_w, i32_w]; rw [c19b0]) | skip)
              replace H := Option.bind_eq_some_iff.mp H
              obtain ⟨⟨t127, t128⟩, A200, H⟩ := H
              replace H : (if t128 = 0 then (if t127.toList = b0.toList then (recantlaw01_WordBack.j1 kj6 b0) else (some false)) else (some false)) = some r := H
              have A20 := Aside0.mk A200
              clear A200
              by_cases c21 : t128 = 0
              · rw [if_pos c21] at H
                have c21b0 : (t128 == 0) = true := beq_iff_eq.mpr c21
                have c21b1 : (t128 != 0) = false := bne_eq_false_iff_eq.mpr c21
                clear c21
                by_cases c22 : t127.toList = b0.toList
                · rw [if_pos c22] at H
                  have c22b0 : (t127.toList == b0.toList) = true := beq_iff_eq.mpr c22
                  have c22b1 : (t127.toList != b0.toList) = false := bne_eq_false_iff_eq.mpr c22
                  clear c22
                  have H' := Aside0.mk H
                  clear H
                  go_wp2_with (first | ((with_reducible refine gate_callee (f := 22) rfl ?_); refine goesL_ (some 51) rfl rfl Tryd.func22 (by kernel_rfl) rfl #[.int .i64 t125] rfl (by (try simp only [List.map_toArray, List.map_cons, List.map_nil]); first | done | rfl | (simp only [List.length_drop, List.length_take]; rfl)) ?_; (with_reducible refine (word_Text.calls t125 t127 t128 _ A20.out (ITab.below HTAB.out (by repeat (first | (with_reducible first | exact HB.out | apply below_alloc | apply pw_below_drewN | apply below_drew1) | exact HB.out)))).mono ?_); rintro e w23 ⟨rfl, hb⟩; refine ⟨_, rfl, ?_⟩; have n0_ := Aside0.mk (below_step (by repeat (first | (with_reducible first | exact HB.out | apply below_alloc | apply pw_below_drewN | apply below_drew1) | exact HB.out)) hb); clear HB; have HB := n0_; clear n0_; (try clear hb); (try clear hb2); (try clear hk); (try clear hi)))
                  go_meet
                  case rel => exact ⟨_, H', ⟨by have := HJ6.out; first | omega | exact Nat.le_refl _⟩, ⟨by repeat (first | (with_reducible first | exact HB.out | apply below_alloc | apply pw_below_drewN | apply below_drew1) | exact HB.out)⟩⟩
                · rw [if_neg c22] at H
                  have c22b0 : (t127.toList == b0.toList) = false := beq_eq_false_iff_ne.mpr c22
                  have c22b1 : (t127.toList != b0.toList) = true := bne_iff_ne.mpr c22
                  obtain rfl := Option.some.inj H
                  go_wp2_with (first | ((with_reducible refine gate_callee (f := 22) rfl ?_); refine goesL_ (some 51) rfl rfl Tryd.func22 (by kernel_rfl) rfl #[.int .i64 t125] rfl (by (try simp only [List.map_toArray, List.map_cons, List.map_nil]); first | done | rfl | (simp only [List.length_drop, List.length_take]; rfl)) ?_; (with_reducible refine (word_Text.calls t125 t127 t128 _ A20.out (ITab.below HTAB.out (by repeat (first | (with_reducible first | exact HB.out | apply below_alloc | apply pw_below_drewN | apply below_drew1) | exact HB.out)))).mono ?_); rintro e w24 ⟨rfl, hb⟩; refine ⟨_, rfl, ?_⟩; have n0_ := Aside0.mk (below_step (by repeat (first | (with_reducible first | exact HB.out | apply below_alloc | apply pw_below_drewN | apply below_drew1) | exact HB.out)) hb); clear HB; have HB := n0_; clear n0_; (try clear hb); (try clear hb2); (try clear hk); (try clear hi)))
                  go_ret
                  exact ⟨by first | rfl | (simp [errW_none, errW_some] <;> rfl) | (simp only [← hji3]; first | rfl | (simp [errW_none, errW_some] <;> rfl)) | (simp [*, errW_none, errW_some] <;> rfl), by repeat (first | (with_reducible first | exact HB.out | apply below_alloc | apply pw_below_drewN | apply below_drew1) | exact HB.out)⟩
              · rw [if_neg c21] at H
                have c21b0 : (t128 == 0) = false := beq_eq_false_iff_ne.mpr c21
                have c21b1 : (t128 != 0) = true := bne_iff_ne.mpr c21
                obtain rfl := Option.some.inj H
                go_wp2_with (first | ((with_reducible refine gate_callee (f := 22) rfl ?_); refine goesL_ (some 51) rfl rfl Tryd.func22 (by kernel_rfl) rfl #[.int .i64 t125] rfl (by (try simp only [List.map_toArray, List.map_cons, List.map_nil]); first | done | rfl | (simp only [List.length_drop, List.length_take]; rfl)) ?_; (with_reducible refine (word_Text.calls t125 t127 t128 _ A20.out (ITab.below HTAB.out (by repeat (first | (with_reducible first | exact HB.out | apply below_alloc | apply pw_below_drewN | apply below_drew1) | exact HB.out)))).mono ?_); rintro e w25 ⟨rfl, hb⟩; refine ⟨_, rfl, ?_⟩; have n0_ := Aside0.mk (below_step (by repeat (first | (with_reducible first | exact HB.out | apply below_alloc | apply pw_below_drewN | apply below_drew1) | exact HB.out)) hb); clear HB; have HB := n0_; clear n0_; (try clear hb); (try clear hb2); (try clear hk); (try clear hi)))
                go_ret
                exact ⟨by first | rfl | (simp [errW_none, errW_some] <;> rfl) | (simp only [← hji3]; first | rfl | (simp [errW_none, errW_some] <;> rfl)) | (simp [*, errW_none, errW_some] <;> rfl), by repeat (first | (with_reducible first | exact HB.out | apply below_alloc | apply pw_below_drewN | apply below_drew1) | exact HB.out)⟩
            · rw [if_neg c19] at H
              have c19b0 : (t126 == 0) = false := beq_eq_false_iff_ne.mpr c19
              have c19b1 : (t126 != 0) = true := bne_iff_ne.mpr c19
              (first | rw [c19b0] | (simp only [i64_w, i32_w]; rw [c19b0]) | skip)
              have H' := Aside0.mk H
              clear H
              go_wp2
              go_meet
              case rel => exact ⟨_, H', ⟨by have := HJ6.out; first | omega | exact Nat.le_refl _⟩, ⟨by repeat (first | (with_reducible first | exact HB.out | apply below_alloc | apply pw_below_drewN | apply below_drew1) | exact HB.out)⟩⟩
          case rest =>
            clear HC17
            try clear c1
            try clear c2
            try clear p2
            try clear c4
            try clear c4b0
            try clear c4b1
            try clear c5
            try clear c5b0
            try clear c5b1
            try clear c9
            try clear c9b0
            try clear c9b1
            try clear c11
            try clear c11b0
            try clear c11b1
            try clear c12
            try clear c12b0
            try clear c12b1
            try clear c19
            try clear c19b0
            try clear c19b1
            try clear c21
            try clear c21b0
            try clear c21b1
            try clear c22
            try clear c22b0
            try clear c22b1
            try clear p2
            obtain ⟨kq, HA, HJ16, HB⟩ := hcut
            cases kq with
            | zero => exact absurd HA.out (by simp [recantlaw01_WordBack.j1])
            | succ kj16 =>
              have H := HA.out
              clear HA
              simp only [recantlaw01_WordBack.j1] at H
              replace H := Option.bind_eq_some_iff.mp H
              obtain ⟨⟨t129, t130⟩, A260, H⟩ := H
              replace H : (if (t129.length : Int) = (t130.length : Int) then ((recantlaw01_alive.f kj16).bind fun t135 => (recantlaw01_WordBack.j2 kj16 b0 t129 t130 (!t135))) else (recantlaw01_WordBack.j2 kj16 b0 t129 t130 true)) = some r := H
              have A26 := Aside0.mk A260
              clear A260
              have HC27 := Aside0.mk H
              clear H
              go_upto_region 13 with (first | ((with_reducible refine gate_callee (f := 34) rfl ?_); refine goesL_ (some 63) rfl rfl Tryd.func34 (by kernel_rfl) rfl #[.string b0] rfl (by (try simp only [List.map_toArray, List.map_cons, List.map_nil]); first | done | (simp only [hji3]; rfl) | rfl | (simp only [List.length_drop, List.length_take]; rfl)) ?_; (with_reducible refine (word_Words.calls kj16 b0 t129 t130 _ A26.out).mono ?_); rintro e w28 ⟨v131, v133, rfl, ho0, ho1, hb⟩; refine ⟨_, rfl, ?_⟩; have n0_ := Aside0.mk (Kd.R_lower ho0 (below_size (by repeat (first | (with_reducible first | exact HB.out | apply below_alloc | apply pw_below_drewN | apply below_drew1) | exact HB.out)))); have n1_ := Aside0.mk (Kd.R_lower ho1 (below_size (by repeat (first | (with_reducible first | exact HB.out | apply below_alloc | apply pw_below_drewN | apply below_drew1) | exact HB.out)))); have n2_ := Aside0.mk (below_step (by repeat (first | (with_reducible first | exact HB.out | apply below_alloc | apply pw_below_drewN | apply below_drew1) | exact HB.out)) hb); clear HB; have HO132 := n0_; have HO134 := n1_; have HB := n2_; clear n0_ n1_ n2_; (try clear hb); (try clear hb2); (try clear hk); (try clear hi); (try clear ho0); (try clear ho1)))
              (try simp only [Act.put, List.setIfInBounds_toArray, List.set_cons_zero, List.set_cons_succ])
              go_cut [74] (fun v74 wc => ∃ (kq : Nat) (x74_26 : Bool), v74 = .bool x74_26 ∧ Aside0 (recantlaw01_WordBack.j2 kq b0 t129 t130 x74_26 = some r) ∧ Aside0 (kq ≤ kj16) ∧ Aside0 (Kd.R Kd.string 9 wc w.heap.size (fun _ => True) v131 t129) ∧ Aside0 (Kd.R (Kd.int .i64) 3 wc w.heap.size (fun _ => True) v133 t130) ∧ Aside0 (Below w.heap.size w wc))
              case first =>
                have H := HC27.out
                clear HC27
                by_cases c29 : (t129.length : Int) = (t130.length : Int)
                · rw [if_pos c29] at H
                  have c29b0 : ((t129.length : Int) == (t130.length : Int)) = true := beq_iff_eq.mpr c29
                  have c29b1 : ((t129.length : Int) != (t130.length : Int)) = false := bne_eq_false_iff_eq.mpr c29
                  have c29b2 : (t129.length == t130.length) = true := by first | simpa using c29 | (simp at c29 ⊢; omega)
                  clear c29
                  (first | rw [c29b0] | (simp only [i64_w, i32_w]; rw [c29b0]) | skip)
                  replace H := Option.bind_eq_some_iff.mp H
                  obtain ⟨t135, A300, H⟩ := H
                  replace H : (recantlaw01_WordBack.j2 kj16 b0 t129 t130 (!t135)) = some r := H
                  have A30 := Aside0.mk A300
                  clear A300
                  have H' := Aside0.mk H
                  clear H
                  obtain ⟨Ao31, co31, eo31⟩ := Kd.R_slice HO132.out
                  subst eo31
                  obtain ⟨Ao32, co32, eo32⟩ := Kd.R_slice HO134.out
                  subst eo32
                  go_wp2_with (first | (go_at_call 24; (with_reducible refine (recantlaw01_alive.calls kj16  t135 _ A30.out).mono ?_); rintro e w33 ⟨rfl, hb⟩; have n0_ := Aside0.mk (Kd.R_below (by (with_reducible repeat (first | apply Kd.R_alloc | apply Kd.R_drewN | apply Kd.R_drew)); exact HO132.out) hb); have n1_ := Aside0.mk (Kd.R_below (by (with_reducible repeat (first | apply Kd.R_alloc | apply Kd.R_drewN | apply Kd.R_drew)); exact HO134.out) hb); have n2_ := Aside0.mk (below_step (by repeat (first | (with_reducible first | exact HB.out | apply below_alloc | apply pw_below_drewN | apply below_drew1) | exact HB.out)) hb); clear HO132; clear HO134; clear HB; have HO132 := n0_; have HO134 := n1_; have HB := n2_; clear n0_ n1_ n2_; (try clear hb); (try clear hb2); (try clear hk); (try clear hi)))
                  go_meet
                  case rel => exact ⟨_, (!t135), (by first | rfl | (simp; done) | (simp [*]; done)), H', ⟨by have := HJ6.out; have := HJ16.out; first | omega | exact Nat.le_refl _⟩, ⟨by (with_reducible repeat (first | apply Kd.R_alloc | apply Kd.R_drewN | apply Kd.R_drew)); exact HO132.out⟩, ⟨by (with_reducible repeat (first | apply Kd.R_alloc | apply Kd.R_drewN | apply Kd.R_drew)); exact HO134.out⟩, ⟨by repeat (first | (with_reducible first | exact HB.out | apply below_alloc | apply pw_below_drewN | apply below_drew1) | exact HB.out)⟩⟩
                · rw [if_neg c29] at H
                  have c29b0 : ((t129.length : Int) == (t130.length : Int)) = false := beq_eq_false_iff_ne.mpr c29
                  have c29b1 : ((t129.length : Int) != (t130.length : Int)) = true := bne_iff_ne.mpr c29
                  have c29b2 : (t129.length == t130.length) = false := by first | simpa using c29 | (simp at c29 ⊢; omega)
                  (first | rw [c29b0] | (simp only [i64_w, i32_w]; rw [c29b0]) | skip)
                  have H' := Aside0.mk H
                  clear H
                  obtain ⟨Ao34, co34, eo34⟩ := Kd.R_slice HO132.out
                  subst eo34
                  obtain ⟨Ao35, co35, eo35⟩ := Kd.R_slice HO134.out
                  subst eo35
                  go_wp2
                  go_meet
                  case rel => exact ⟨_, (true), (by first | rfl | (simp; done) | (simp [*]; done)), H', ⟨by have := HJ6.out; have := HJ16.out; first | omega | exact Nat.le_refl _⟩, ⟨by (with_reducible repeat (first | apply Kd.R_alloc | apply Kd.R_drewN | apply Kd.R_drew)); exact HO132.out⟩, ⟨by (with_reducible repeat (first | apply Kd.R_alloc | apply Kd.R_drewN | apply Kd.R_drew)); exact HO134.out⟩, ⟨by repeat (first | (with_reducible first | exact HB.out | apply below_alloc | apply pw_below_drewN | apply below_drew1) | exact HB.out)⟩⟩
              case rest =>
                clear HC27
                try clear c1
                try clear c2
                try clear p2
                try clear c3
                try clear c4
                try clear c4b0
                try clear c4b1
                try clear c5
                try clear c5b0
                try clear c5b1
                try clear c9
                try clear c9b0
                try clear c9b1
                try clear c11
                try clear c11b0
                try clear c11b1
                try clear c12
                try clear c12b0
                try clear c12b1
                try clear c19
                try clear c19b0
                try clear c19b1
                try clear c21
                try clear c21b0
                try clear c21b1
                try clear c22
                try clear c22b0
                try clear c22b1
                try clear c29
                try clear c29b0
                try clear c29b1
                try clear c29b2
                try clear c34
                try clear p2
                obtain ⟨kq, x74_26, rfl, HA, HJ26, HO_13, HO_14, HB⟩ := hcut
                cases kq with
                | zero => exact absurd HA.out (by simp [recantlaw01_WordBack.j2])
                | succ kj26 =>
                  have H := HA.out
                  clear HA
                  simp only [recantlaw01_WordBack.j2] at H
                  by_cases c36 : x74_26 = true
                  · subst c36
                    have H1 : (some false) = some r := by rw [if_pos rfl] at H; exact H
                    clear H
                    have H := H1
                    clear H1
                    obtain rfl := Option.some.inj H
                    go_wp2
                    go_ret
                    exact ⟨by first | rfl | (simp [errW_none, errW_some] <;> rfl) | (simp only [← hji3]; first | rfl | (simp [errW_none, errW_some] <;> rfl)) | (simp [*, errW_none, errW_some] <;> rfl), by repeat (first | (with_reducible first | exact HB.out | apply below_alloc | apply pw_below_drewN | apply below_drew1) | exact HB.out)⟩
                  · replace c36 := Bool.eq_false_iff.mpr c36
                    subst c36
                    have H1 : (recantlaw01_WordBack.l0 kj26 b0 t130 (-1) t129 (t129.length : Int) 0) = some r := by rw [if_neg (show ¬ (false = true) by decide)] at H; exact H
                    clear H
                    have H := H1
                    clear H1
                    have H' := Aside0.mk H
                    clear H
                    obtain ⟨Ao37, co37, eo37⟩ := Kd.R_slice HO_13.out
                    subst eo37
                    go_wp2
                    go_loopg [15, 77] kj26 (fun kq v15 v77 w' => ∃ (x15_4 : Int) (x77_4 : Int), v15 = .int .i64 x15_4 ∧ v77 = .int .i64 x77_4 ∧ Aside0 (recantlaw01_WordBack.l0 kq b0 t130 x15_4 t129 (t129.length : Int) x77_4 = some r) ∧ Aside0 (kq ≤ kj26) ∧ Aside0 (Kd.R (Kd.int .i64) 3 w' w.heap.size (fun _ => True) v133 t130) ∧ Aside0 (Kd.R Kd.string 9 w' w.heap.size (fun _ => True) (.slice Ao37 t129.length co37) t129) ∧ Aside0 (Below w.heap.size w w'))
                    case atStart => exact ⟨((-1)), (0), (by first | rfl | (simp; done) | (simp [*]; done)), (by first | rfl | (simp; done) | (simp [*]; done)), H', ⟨Nat.le_refl _⟩, ⟨by (with_reducible repeat (first | apply Kd.R_alloc | apply Kd.R_drewN | apply Kd.R_drew)); exact HO_14.out⟩, ⟨by (with_reducible repeat (first | apply Kd.R_alloc | apply Kd.R_drewN | apply Kd.R_drew)); exact HO_13.out⟩, ⟨by repeat (first | (with_reducible first | exact HB.out | apply below_alloc | apply pw_below_drewN | apply below_drew1) | exact HB.out)⟩⟩
                    case round =>
                      clear H'
                      try clear c1
                      try clear c2
                      try clear p2
                      try clear c3
                      try clear c4
                      try clear c4b0
                      try clear c4b1
                      try clear c5
                      try clear c5b0
                      try clear c5b1
                      try clear c9
                      try clear c9b0
                      try clear c9b1
                      try clear c11
                      try clear c11b0
                      try clear c11b1
                      try clear c12
                      try clear c12b0
                      try clear c12b1
                      try clear c19
                      try clear c19b0
                      try clear c19b1
                      try clear c21
                      try clear c21b0
                      try clear c21b1
                      try clear c22
                      try clear c22b0
                      try clear c22b1
                      try clear c29
                      try clear c29b0
                      try clear c29b1
                      try clear c29b2
                      try clear c34
                      try clear c36
                      try clear p2
                      obtain ⟨x15_4, x77_4, rfl, rfl, HA, HK4, HO_14, HO_75, HB⟩ := hrel
                      cases gk with
                      | zero => exact absurd HA.out (by simp [recantlaw01_WordBack.l0])
                      | succ k4 =>
                        have H := HA.out
                        clear HA
                        simp only [recantlaw01_WordBack.l0] at H
                        by_cases c38 : x77_4 < (t129.length : Int)
                        · rw [if_pos c38] at H
                          have c38b0 : decide (x77_4 < (t129.length : Int)) = true := decide_eq_true c38
                          clear c38
                          by_cases c39 : 0 ≤ x77_4
                          · rw [if_pos c39] at H
                            have c39b0 : decide (0 ≤ x77_4) = true := decide_eq_true c39
                            clear c39
                            by_cases c40 : x77_4 < (t129.length : Int)
                            · rw [if_pos c40] at H
                              have c40b0 : decide (x77_4 < (t129.length : Int)) = true := decide_eq_true c40
                              clear c40
                              by_cases c41 : x77_4 < (t130.length : Int)
                              · rw [if_pos c41] at H
                                have c41b0 : decide (x77_4 < (t130.length : Int)) = true := decide_eq_true c41
                                clear c41
                                by_cases c42 : (rd t130 x77_4) ≤ x15_4
                                · rw [if_pos c42] at H
                                  have c42b0 : decide ((rd t130 x77_4) ≤ x15_4) = true := decide_eq_true c42
                                  clear c42
                                  obtain rfl := Option.some.inj H
                                  have p136 : 0 ≤ (x77_4 : Int) := of_decide_eq_true (by first | (with_reducible assumption) | assumption)
                                  have q136 : x77_4 < (t129.length : Int) := of_decide_eq_true (by first | (with_reducible assumption) | assumption)
                                  obtain ⟨ad136, e136, hx136_0⟩ := Kd.at_string (Kd.R_reads' HO_75.out).2.2 x77_4 p136 q136
                                  cases e136
                                  replace p136 := eq_true p136
                                  replace q136 := eq_true q136
                                  obtain ⟨Ao43, co43, eo43⟩ := Kd.R_slice HO_14.out
                                  subst eo43
                                  have p137 : 0 ≤ (x77_4 : Int) := of_decide_eq_true (by first | (with_reducible assumption) | assumption)
                                  have q137 : x77_4 < (t130.length : Int) := of_decide_eq_true (by first | (with_reducible assumption) | assumption)
                                  obtain ⟨ad137, e137, hx137_0⟩ := Kd.at_int (Kd.R_reads' HO_14.out).2.2 x77_4 p137 q137
                                  cases e137
                                  replace p137 := eq_true p137
                                  replace q137 := eq_true q137
                                  go_wp2
                                  go_ret
                                  exact ⟨by first | rfl | (simp [errW_none, errW_some] <;> rfl) | (simp only [← hji3]; first | rfl | (simp [errW_none, errW_some] <;> rfl)) | (simp [*, errW_none, errW_some] <;> rfl), by repeat (first | (with_reducible first | exact HB.out | apply below_alloc | apply pw_below_drewN | apply below_drew1) | exact HB.out)⟩
                                · rw [if_neg c42] at H
                                  have c42b0 : decide ((rd t130 x77_4) ≤ x15_4) = false := decide_eq_false c42
                                  clear c42
                                  obtain ⟨ji44, hji44⟩ : ∃ j_ : Int, (mn (rd t130 x77_4) (b0.size : Int)) = j_ := ⟨_, rfl⟩
                                  replace H : (if 0 ≤ (ji44) then (if (ji44) ≤ (b0.size : Int) then ((strings_HasPrefix.f (b0.extract ((ji44) : Int).toNat b0.size) (rdOf ByteArray.empty t129 x77_4)).bind fun t139 => (if t139 = true then (if (rdOf ByteArray.empty t129 x77_4).toList = ([] : List UInt8) then (some false) else ((strings_ContainsAny.f (rdOf ByteArray.empty t129 x77_4) (⟨#[32, 9, 35]⟩ : ByteArray)).bind fun t140 => (if t140 = true then (some false) else (recantlaw01_WordBack.l0 k4 b0 t130 (wrap64 ((rd t130 x77_4) + ((rdOf ByteArray.empty t129 x77_4).size : Int))) t129 (t129.length : Int) (wrap64 (x77_4 + 1)))))) else (some false))) else (none)) else (none)) = some r := by first | (rw [hji44] at H; exact H) | (simp only [hji44] at H ⊢; exact H)
                                  have hji44_ : (if (b0.size : Int) < (rd t130 x77_4) then (b0.size : Int) else (rd t130 x77_4)) = ji44 := hji44
                                  by_cases c45 : 0 ≤ (ji44)
                                  · rw [if_pos c45] at H
                                    have c45b0 := eq_true c45
                                    have c45b1 : decide (0 ≤ (ji44)) = true := decide_eq_true c45
                                    clear c45
                                    by_cases c46 : (ji44) ≤ (b0.size : Int)
                                    · rw [if_pos c46] at H
                                      have c46b0 := eq_true c46
                                      have c46b1 : decide ((ji44) ≤ (b0.size : Int)) = true := decide_eq_true c46
                                      clear c46
                                      replace H := Option.bind_eq_some_iff.mp H
                                      obtain ⟨t139, A470, H⟩ := H
                                      replace H : (if t139 = true then (if (rdOf ByteArray.empty t129 x77_4).toList = ([] : List UInt8) then (some false) else ((strings_ContainsAny.f (rdOf ByteArray.empty t129 x77_4) (⟨#[32, 9, 35]⟩ : ByteArray)).bind fun t140 => (if t140 = true then (some false) else (recantlaw01_WordBack.l0 k4 b0 t130 (wrap64 ((rd t130 x77_4) + ((rdOf ByteArray.empty t129 x77_4).size : Int))) t129 (t129.length : Int) (wrap64 (x77_4 + 1)))))) else (some false)) = some r := H
                                      have A47 := Aside0.mk A470
                                      clear A470
                                      by_cases c48 : t139 = true
                                      · subst c48
                                        have H1 : (if (rdOf ByteArray.empty t129 x77_4).toList = ([] : List UInt8) then (some false) else ((strings_ContainsAny.f (rdOf ByteArray.empty t129 x77_4) (⟨#[32, 9, 35]⟩ : ByteArray)).bind fun t140 => (if t140 = true then (some false) else (recantlaw01_WordBack.l0 k4 b0 t130 (wrap64 ((rd t130 x77_4) + ((rdOf ByteArray.empty t129 x77_4).size : Int))) t129 (t129.length : Int) (wrap64 (x77_4 + 1)))))) = some r := by rw [if_pos rfl] at H; exact H
                                        clear H
                                        have H := H1
                                        clear H1
                                        by_cases c49 : (rdOf ByteArray.empty t129 x77_4).toList = ([] : List UInt8)
                                        · rw [if_pos c49] at H
                                          have c49b0 : ((rdOf ByteArray.empty t129 x77_4).toList == ([] : List UInt8)) = true := beq_iff_eq.mpr c49
                                          have c49b1 : ((rdOf ByteArray.empty t129 x77_4).toList != ([] : List UInt8)) = false := bne_eq_false_iff_eq.mpr c49
                                          clear c49
                                          obtain rfl := Option.some.inj H
                                          have p136 : 0 ≤ (x77_4 : Int) := of_decide_eq_true (by first | (with_reducible assumption) | assumption)
                                          have q136 : x77_4 < (t129.length : Int) := of_decide_eq_true (by first | (with_reducible assumption) | assumption)
                                          obtain ⟨ad136, e136, hx136_0⟩ := Kd.at_string (Kd.R_reads' HO_75.out).2.2 x77_4 p136 q136
                                          cases e136
                                          replace p136 := eq_true p136
                                          replace q136 := eq_true q136
                                          obtain ⟨Ao50, co50, eo50⟩ := Kd.R_slice HO_14.out
                                          subst eo50
                                          have p137 : 0 ≤ (x77_4 : Int) := of_decide_eq_true (by first | (with_reducible assumption) | assumption)
                                          have q137 : x77_4 < (t130.length : Int) := of_decide_eq_true (by first | (with_reducible assumption) | assumption)
                                          obtain ⟨ad137, e137, hx137_0⟩ := Kd.at_int (Kd.R_reads' HO_14.out).2.2 x77_4 p137 q137
                                          cases e137
                                          replace p137 := eq_true p137
                                          replace q137 := eq_true q137
                                          have p138 : 0 ≤ (x77_4 : Int) := of_decide_eq_true (by first | (with_reducible assumption) | assumption)
                                          have q138 : x77_4 < (t130.length : Int) := of_decide_eq_true (by first | (with_reducible assumption) | assumption)
                                          obtain ⟨ad138, e138, hx138_0⟩ := Kd.at_int (Kd.R_reads' HO_14.out).2.2 x77_4 p138 q138
                                          obtain rfl : ad137 = ad138 := (by injection e138)
                                          replace p138 := eq_true p138
                                          replace q138 := eq_true q138
                                          go_wp2_with (first | (go_at_call 35; (with_reducible refine (strings_HasPrefix.calls (b0.extract ((ji44) : Int).toNat b0.size) (rdOf ByteArray.empty t129 x77_4) true _ A47.out).mono ?_); rintro e w' ⟨rfl, ⟨nd, rfl⟩⟩))
                                          go_ret
                                          exact ⟨by first | rfl | (simp [errW_none, errW_some] <;> rfl) | (simp only [← hji3, ← hji44]; first | rfl | (simp [errW_none, errW_some] <;> rfl)) | (simp [*, errW_none, errW_some] <;> rfl), by repeat (first | (with_reducible first | exact HB.out | apply below_alloc | apply pw_below_drewN | apply below_drew1) | exact HB.out)⟩
                                        · rw [if_neg c49] at H
                                          have c49b0 : ((rdOf ByteArray.empty t129 x77_4).toList == ([] : List UInt8)) = false := beq_eq_false_iff_ne.mpr c49
                                          have c49b1 : ((rdOf ByteArray.empty t129 x77_4).toList != ([] : List UInt8)) = true := bne_iff_ne.mpr c49
                                          replace H := Option.bind_eq_some_iff.mp H
                                          obtain ⟨t140, A510, H⟩ := H
                                          replace H : (if t140 = true then (some false) else (recantlaw01_WordBack.l0 k4 b0 t130 (wrap64 ((rd t130 x77_4) + ((rdOf ByteArray.empty t129 x77_4).size : Int))) t129 (t129.length : Int) (wrap64 (x77_4 + 1)))) = some r := H
                                          have A51 := Aside0.mk A510
                                          clear A510
                                          by_cases c52 : t140 = true
                                          · subst c52
                                            have H1 : (some false) = some r := by rw [if_pos rfl] at H; exact H
                                            clear H
                                            have H := H1
                                            clear H1
                                            obtain rfl := Option.some.inj H
                                            have p136 : 0 ≤ (x77_4 : Int) := of_decide_eq_true (by first | (with_reducible assumption) | assumption)
                                            have q136 : x77_4 < (t129.length : Int) := of_decide_eq_true (by first | (with_reducible assumption) | assumption)
                                            obtain ⟨ad136, e136, hx136_0⟩ := Kd.at_string (Kd.R_reads' HO_75.out).2.2 x77_4 p136 q136
                                            cases e136
                                            replace p136 := eq_true p136
                                            replace q136 := eq_true q136
                                            obtain ⟨Ao53, co53, eo53⟩ := Kd.R_slice HO_14.out
                                            subst eo53
                                            have p137 : 0 ≤ (x77_4 : Int) := of_decide_eq_true (by first | (with_reducible assumption) | assumption)
                                            have q137 : x77_4 < (t130.length : Int) := of_decide_eq_true (by first | (with_reducible assumption) | assumption)
                                            obtain ⟨ad137, e137, hx137_0⟩ := Kd.at_int (Kd.R_reads' HO_14.out).2.2 x77_4 p137 q137
                                            cases e137
                                            replace p137 := eq_true p137
                                            replace q137 := eq_true q137
                                            have p138 : 0 ≤ (x77_4 : Int) := of_decide_eq_true (by first | (with_reducible assumption) | assumption)
                                            have q138 : x77_4 < (t130.length : Int) := of_decide_eq_true (by first | (with_reducible assumption) | assumption)
                                            obtain ⟨ad138, e138, hx138_0⟩ := Kd.at_int (Kd.R_reads' HO_14.out).2.2 x77_4 p138 q138
                                            obtain rfl : ad137 = ad138 := (by injection e138)
                                            replace p138 := eq_true p138
                                            replace q138 := eq_true q138
                                            go_wp2_with (first | (go_at_call 35; (with_reducible refine (strings_HasPrefix.calls (b0.extract ((ji44) : Int).toNat b0.size) (rdOf ByteArray.empty t129 x77_4) true _ A47.out).mono ?_); rintro e w' ⟨rfl, ⟨nd, rfl⟩⟩) | (go_at_call 36; (with_reducible refine (strings_ContainsAny.calls (rdOf ByteArray.empty t129 x77_4) (⟨#[32, 9, 35]⟩ : ByteArray) true _ A51.out).mono ?_); rintro e w54 ⟨rfl, hb⟩; have n0_ := Aside0.mk (Kd.R_below (by (with_reducible repeat (first | apply Kd.R_alloc | apply Kd.R_drewN | apply Kd.R_drew)); exact HO_14.out) hb); have n1_ := Aside0.mk (Kd.R_below (by (with_reducible repeat (first | apply Kd.R_alloc | apply Kd.R_drewN | apply Kd.R_drew)); exact HO_75.out) hb); have n2_ := Aside0.mk (below_step (by repeat (first | (with_reducible first | exact HB.out | apply below_alloc | apply pw_below_drewN | apply below_drew1) | exact HB.out)) hb); clear HO_14; clear HO_75; clear HB; have HO_14 := n0_; have HO_75 := n1_; have HB := n2_; clear n0_ n1_ n2_; (try clear hb); (try clear hb2); (try clear hk); (try clear hi)))
                                            go_ret
                                            exact ⟨by first | rfl | (simp [errW_none, errW_some] <;> rfl) | (simp only [← hji3, ← hji44]; first | rfl | (simp [errW_none, errW_some] <;> rfl)) | (simp [*, errW_none, errW_some] <;> rfl), by repeat (first | (with_reducible first | exact HB.out | apply below_alloc | apply pw_below_drewN | apply below_drew1) | exact HB.out)⟩
                                          · replace c52 := Bool.eq_false_iff.mpr c52
                                            subst c52
                                            have H1 : (recantlaw01_WordBack.l0 k4 b0 t130 (wrap64 ((rd t130 x77_4) + ((rdOf ByteArray.empty t129 x77_4).size : Int))) t129 (t129.length : Int) (wrap64 (x77_4 + 1))) = some r := by rw [if_neg (show ¬ (false = true) by decide)] at H; exact H
                                            clear H
                                            have H := H1
                                            clear H1
                                            have H' := Aside0.mk H
                                            clear H
                                            have p136 : 0 ≤ (x77_4 : Int) := of_decide_eq_true (by first | (with_reducible assumption) | assumption)
                                            have q136 : x77_4 < (t129.length : Int) := of_decide_eq_true (by first | (with_reducible assumption) | assumption)
                                            obtain ⟨ad136, e136, hx136_0⟩ := Kd.at_string (Kd.R_reads' HO_75.out).2.2 x77_4 p136 q136
                                            cases e136
                                            replace p136 := eq_true p136
                                            replace q136 := eq_true q136
                                            obtain ⟨Ao55, co55, eo55⟩ := Kd.R_slice HO_14.out
                                            subst eo55
                                            have p137 : 0 ≤ (x77_4 : Int) := of_decide_eq_true (by first | (with_reducible assumption) | assumption)
                                            have q137 : x77_4 < (t130.length : Int) := of_decide_eq_true (by first | (with_reducible assumption) | assumption)
                                            obtain ⟨ad137, e137, hx137_0⟩ := Kd.at_int (Kd.R_reads' HO_14.out).2.2 x77_4 p137 q137
                                            cases e137
                                            replace p137 := eq_true p137
                                            replace q137 := eq_true q137
                                            have p138 : 0 ≤ (x77_4 : Int) := of_decide_eq_true (by first | (with_reducible assumption) | assumption)
                                            have q138 : x77_4 < (t130.length : Int) := of_decide_eq_true (by first | (with_reducible assumption) | assumption)
                                            obtain ⟨ad138, e138, hx138_0⟩ := Kd.at_int (Kd.R_reads' HO_14.out).2.2 x77_4 p138 q138
                                            obtain rfl : ad137 = ad138 := (by injection e138)
                                            replace p138 := eq_true p138
                                            replace q138 := eq_true q138
                                            go_wp2_with (first | (go_at_call 35; (with_reducible refine (strings_HasPrefix.calls (b0.extract ((ji44) : Int).toNat b0.size) (rdOf ByteArray.empty t129 x77_4) true _ A47.out).mono ?_); rintro e w' ⟨rfl, ⟨nd, rfl⟩⟩) | (go_at_call 36; (with_reducible refine (strings_ContainsAny.calls (rdOf ByteArray.empty t129 x77_4) (⟨#[32, 9, 35]⟩ : ByteArray) false _ A51.out).mono ?_); rintro e w56 ⟨rfl, hb⟩; have n0_ := Aside0.mk (Kd.R_below (by (with_reducible repeat (first | apply Kd.R_alloc | apply Kd.R_drewN | apply Kd.R_drew)); exact HO_14.out) hb); have n1_ := Aside0.mk (Kd.R_below (by (with_reducible repeat (first | apply Kd.R_alloc | apply Kd.R_drewN | apply Kd.R_drew)); exact HO_75.out) hb); have n2_ := Aside0.mk (below_step (by repeat (first | (with_reducible first | exact HB.out | apply below_alloc | apply pw_below_drewN | apply below_drew1) | exact HB.out)) hb); clear HO_14; clear HO_75; clear HB; have HO_14 := n0_; have HO_75 := n1_; have HB := n2_; clear n0_ n1_ n2_; (try clear hb); (try clear hb2); (try clear hk); (try clear hi); have p141 : 0 ≤ (x77_4 : Int) := of_decide_eq_true (by first | (with_reducible assumption) | assumption); have q141 : x77_4 < (t130.length : Int) := of_decide_eq_true (by first | (with_reducible assumption) | assumption); obtain ⟨ad141, e141, hx141_0⟩ := Kd.at_int (Kd.R_reads' HO_14.out).2.2 x77_4 p141 q141; obtain rfl : ad137 = ad141 := (by injection e141); replace p141 := eq_true p141; replace q141 := eq_true q141))
                                            go_roundg k4
                                            case measure => have := HJ6.out; have := HJ16.out; have := HJ26.out; have := HK4.out; omega
                                            case rel => exact ⟨(wrap64 ((rd t130 x77_4) + ((rdOf ByteArray.empty t129 x77_4).size : Int))), (wrap64 (x77_4 + 1)), (by first | rfl | (simp; done) | (simp [*]; done)), (by first | rfl | (simp; done) | (simp [*]; done)), H', ⟨by have := HJ6.out; have := HJ16.out; have := HJ26.out; have := HK4.out; omega⟩, ⟨by (with_reducible repeat (first | apply Kd.R_alloc | apply Kd.R_drewN | apply Kd.R_drew)); exact HO_14.out⟩, ⟨by (with_reducible repeat (first | apply Kd.R_alloc | apply Kd.R_drewN | apply Kd.R_drew)); exact HO_75.out⟩, ⟨by repeat (first | (with_reducible first | exact HB.out | apply below_alloc | apply pw_below_drewN | apply below_drew1) | exact HB.out)⟩⟩
                                      · replace c48 := Bool.eq_false_iff.mpr c48
                                        subst c48
                                        have H1 : (some false) = some r := by rw [if_neg (show ¬ (false = true) by decide)] at H; exact H
                                        clear H
                                        have H := H1
                                        clear H1
                                        obtain rfl := Option.some.inj H
                                        have p136 : 0 ≤ (x77_4 : Int) := of_decide_eq_true (by first | (with_reducible assumption) | assumption)
                                        have q136 : x77_4 < (t129.length : Int) := of_decide_eq_true (by first | (with_reducible assumption) | assumption)
                                        obtain ⟨ad136, e136, hx136_0⟩ := Kd.at_string (Kd.R_reads' HO_75.out).2.2 x77_4 p136 q136
                                        cases e136
                                        replace p136 := eq_true p136
                                        replace q136 := eq_true q136
                                        obtain ⟨Ao57, co57, eo57⟩ := Kd.R_slice HO_14.out
                                        subst eo57
                                        have p137 : 0 ≤ (x77_4 : Int) := of_decide_eq_true (by first | (with_reducible assumption) | assumption)
                                        have q137 : x77_4 < (t130.length : Int) := of_decide_eq_true (by first | (with_reducible assumption) | assumption)
                                        obtain ⟨ad137, e137, hx137_0⟩ := Kd.at_int (Kd.R_reads' HO_14.out).2.2 x77_4 p137 q137
                                        cases e137
                                        replace p137 := eq_true p137
                                        replace q137 := eq_true q137
                                        have p138 : 0 ≤ (x77_4 : Int) := of_decide_eq_true (by first | (with_reducible assumption) | assumption)
                                        have q138 : x77_4 < (t130.length : Int) := of_decide_eq_true (by first | (with_reducible assumption) | assumption)
                                        obtain ⟨ad138, e138, hx138_0⟩ := Kd.at_int (Kd.R_reads' HO_14.out).2.2 x77_4 p138 q138
                                        obtain rfl : ad137 = ad138 := (by injection e138)
                                        replace p138 := eq_true p138
                                        replace q138 := eq_true q138
                                        go_wp2_with (first | (go_at_call 35; (with_reducible refine (strings_HasPrefix.calls (b0.extract ((ji44) : Int).toNat b0.size) (rdOf ByteArray.empty t129 x77_4) false _ A47.out).mono ?_); rintro e w' ⟨rfl, ⟨nd, rfl⟩⟩))
                                        go_ret
                                        exact ⟨by first | rfl | (simp [errW_none, errW_some] <;> rfl) | (simp only [← hji3, ← hji44]; first | rfl | (simp [errW_none, errW_some] <;> rfl)) | (simp [*, errW_none, errW_some] <;> rfl), by repeat (first | (with_reducible first | exact HB.out | apply below_alloc | apply pw_below_drewN | apply below_drew1) | exact HB.out)⟩
                                    · rw [if_neg c46] at H
                                      exact absurd H (by simp)
                                  · rw [if_neg c45] at H
                                    exact absurd H (by simp)
                              · rw [if_neg c41] at H
                                exact absurd H (by simp)
                            · rw [if_neg c40] at H
                              exact absurd H (by simp)
                          · rw [if_neg c39] at H
                            exact absurd H (by simp)
                        · rw [if_neg c38] at H
                          have c38b0 : decide (x77_4 < (t129.length : Int)) = false := decide_eq_false c38
                          clear c38
                          obtain rfl := Option.some.inj H
                          go_wp2
                          go_ret
                          exact ⟨by first | rfl | (simp [errW_none, errW_some] <;> rfl) | (simp only [← hji3]; first | rfl | (simp [errW_none, errW_some] <;> rfl)) | (simp [*, errW_none, errW_some] <;> rfl), by repeat (first | (with_reducible first | exact HB.out | apply below_alloc | apply pw_below_drewN | apply below_drew1) | exact HB.out)⟩
    · rw [if_neg c5] at H
      exact absurd H (by simp)
  · rw [if_neg c4] at H
    exact absurd H (by simp)

/-- THE ONE PURE STATEMENT of recantlaw01_WordBack: yours. -/
def recantlaw01_WordBack.Pure : Prop := ∀ (a0 : ByteArray) (a1 : Int), a0.size ≤ 140737488351232 → (Lit.int .i64 a1).wf = true → ∃ k, recantlaw01_WordBack.f k a0 a1 = some true
theorem recantlaw01_WordBack.walk (P : recantlaw01_WordBack.Pure) (a0 : ByteArray) (a1 : Int) (w : World) (w0 : a0.size ≤ 140737488351232) (w1 : (Lit.int .i64 a1).wf = true) (hT : ITab w) :
    Calls Tryd.prog 9 #[.string a0, .int .i64 a1] w fun e w' => e = .returned (.bool true) ∧ Below w.heap.size w w' := by
  obtain ⟨k, h⟩ := P a0 a1 w0 w1
  refine (recantlaw01_WordBack.calls k a0 a1 true w h hT).mono ?_
  rintro e w' ⟨rfl, hd⟩
  exact ⟨rfl, hd⟩

end Go.Proofs.YthkpocgbinmeiaaDoor.P

-- Written by gprint.py, a program of this session's: the kit's print with given functions beside. Not trusted: Lean checks it.
import Derived.Test.YthkpocgbinmeiaaDoorP0
import Derived.Test.YthkpocgbinmeiaaDoorP3
import Derived.Test.YthkpocgbinmeiaaDoorGConcat
import Derived.Test.YthkpocgbinmeiaaDoorGPut
import Derived.Test.YthkpocgbinmeiaaDoorGRight
namespace Go.Proofs.YthkpocgbinmeiaaDoor.P
open Go.RowKit Go.Proofs.YthkpocgbinmeiaaDoorW.PrintWords Go.Proofs.YthkpocgbinmeiaaDoorW.PrintLast Go.Proofs.YthkpocgbinmeiaaDoorW.PrintMore
attribute [local go_sem] max2_int min2_int max_two min_two max_three min_three max_four min_four   -- for this text's walks alone
set_option linter.unusedVariables false
set_option linter.unusedSimpArgs false

/-! ### binary_Print: function 12 -/
mutual
def binary_Print.l0 : Nat → List Int → List (S34) → Int → Int → Option (List Int × Int)
  | 0, _, _, _, _ => none
  | k + 1, x4, x15, x16, x17 => if x17 < x16 then (if 0 ≤ x17 then (if x17 < (x15.length : Int) then ((some (([((rd_T34 x15 x17).f0) % 256] : List Int) : List Int)).bind fun y115 => ((varint_Put.f (IntKind.u64.wrap ((rd_T34 x15 x17).f1))).bind fun t118 => (if y115.length + t118.length < 140737488355328 then ((some (y115 ++ t118 : List Int)).bind fun y121 => ((binary_variable.f ((rd_T34 x15 x17).f0)).bind fun t124 => (if t124 = true then ((varint_Put.f (IntKind.u64.wrap ((rd_T34 x15 x17).f2))).bind fun t125 => (if y121.length + t125.length < 140737488355328 then (binary_Print.j1 k x4 (y121 ++ t125) x15 x16 x17 ((rd_T34 x15 x17).f0) ((rd_T34 x15 x17).f1) ((rd_T34 x15 x17).f2) ((rd_T34 x15 x17).f3)) else (none))) else (binary_Print.j1 k x4 y121 x15 x16 x17 ((rd_T34 x15 x17).f0) ((rd_T34 x15 x17).f1) ((rd_T34 x15 x17).f2) ((rd_T34 x15 x17).f3))))) else (none)))) else (none)) else (none)) else (some (x4, 0))
def binary_Print.j1 : Nat → List Int → List Int → List (S34) → Int → Int → Int → Int → Int → Int → Option (List Int × Int)
  | 0, _, _, _, _, _, _, _, _, _ => none
  | k + 1, x4, x7, x15, x16, x17, x115000, x115001, x115002, x115003 => (binary_value.f x115000).bind fun t131 => (if t131 = true then ((varint_Zig.f x115003).bind fun t132 => ((varint_Put.f t132).bind fun t133 => (if x7.length + t133.length < 140737488355328 then ((some (x7 ++ t133 : List Int)).bind fun y136 => ((varint_Put.f (IntKind.u64.wrap ((y136.length : Int)))).bind fun t139 => ((slices_Concat_byte_byte.f (([x4, t139, y136] : List (List Int)))).bind fun t145 => (binary_Print.l0 k t145 x15 x16 (wrap64 (x17 + 1)))))) else (none)))) else ((varint_Put.f (IntKind.u64.wrap ((x7.length : Int)))).bind fun t148 => ((slices_Concat_byte_byte.f (([x4, t148, x7] : List (List Int)))).bind fun t154 => (binary_Print.l0 k t154 x15 x16 (wrap64 (x17 + 1))))))
end
def binary_Print.f (k : Nat) (l0 : List (S34)) : Option (List Int × Int) := (text_Right.f l0).bind fun t109 => (if t109 = true then ((varint_Put.f (IntKind.u64.wrap ((l0.length : Int)))).bind fun t110 => (binary_Print.l0 k t110 l0 (l0.length : Int) 0)) else (some (([] : List Int), 1)))
theorem binary_Print.mono_l : ∀ k, (∀ y0 y1 y2 y3, LeO (binary_Print.l0 k y0 y1 y2 y3) (binary_Print.l0 (k + 1) y0 y1 y2 y3)) ∧ (∀ y0 y1 y2 y3 y4 y5 y6 y7 y8, LeO (binary_Print.j1 k y0 y1 y2 y3 y4 y5 y6 y7 y8) (binary_Print.j1 (k + 1) y0 y1 y2 y3 y4 y5 y6 y7 y8))
  | 0 => ⟨fun _ _ _ _ r h => by simp [binary_Print.l0] at h, fun _ _ _ _ _ _ _ _ _ r h => by simp [binary_Print.j1] at h⟩
  | k + 1 => by
    obtain ⟨ih0, ih1⟩ := binary_Print.mono_l k
    refine ⟨?_, ?_⟩
    · intro y0 y1 y2 y3
      unfold binary_Print.l0
      repeat' first
      | (with_reducible exact ih0 _ _ _ _)
      | (with_reducible exact ih1 _ _ _ _ _ _ _ _ _)
      | (with_reducible exact LeO.refl _)
      | (with_reducible exact LeO.none _)
      | (with_reducible refine LeO.ite ?_ ?_)
      | (with_reducible refine LeO.bind ?_ (fun _ => ?_))
      | exact ih0 _ _ _ _
      | exact ih1 _ _ _ _ _ _ _ _ _
      | exact LeO.none _
      | refine LeO.ite ?_ ?_
      | refine LeO.bind ?_ (fun _ => ?_)
    · intro y0 y1 y2 y3 y4 y5 y6 y7 y8
      unfold binary_Print.j1
      repeat' first
      | (with_reducible exact ih0 _ _ _ _)
      | (with_reducible exact ih1 _ _ _ _ _ _ _ _ _)
      | (with_reducible exact LeO.refl _)
      | (with_reducible exact LeO.none _)
      | (with_reducible refine LeO.ite ?_ ?_)
      | (with_reducible refine LeO.bind ?_ (fun _ => ?_))
      | exact ih0 _ _ _ _
      | exact ih1 _ _ _ _ _ _ _ _ _
      | exact LeO.none _
      | refine LeO.ite ?_ ?_
      | refine LeO.bind ?_ (fun _ => ?_)
theorem binary_Print.mono : ∀ a0 k, LeO (binary_Print.f k a0) (binary_Print.f (k + 1) a0) := by
  intro a0 k
  obtain ⟨ih0, ih1⟩ := binary_Print.mono_l k
  unfold binary_Print.f
  repeat' first
      | (with_reducible exact ih0 _ _ _ _)
      | (with_reducible exact ih1 _ _ _ _ _ _ _ _ _)
      | (with_reducible exact LeO.refl _)
      | (with_reducible exact LeO.none _)
      | (with_reducible refine LeO.ite ?_ ?_)
      | (with_reducible refine LeO.bind ?_ (fun _ => ?_))
      | exact ih0 _ _ _ _
      | exact ih1 _ _ _ _ _ _ _ _ _
      | exact LeO.none _
      | refine LeO.ite ?_ ?_
      | refine LeO.bind ?_ (fun _ => ?_)
def binary_Print.T7 : Bool × List (List Nat × List Nat) := (true, [([], []), ([0], [0]), ([1], [1]), ([2], [2]), ([], []), ([4], [4]), ([5], [5]), ([6], [6]), ([3, 7, 7], [3, 7]), ([8, 8, 0, 1, 2, 3, 4, 5, 6, 7, 8], [8])])
def binary_Print.B7 : List Nat := [0, 1, 3, 7, 0, 16, 48, 112, 255, 511]
theorem binary_Print.tab7 : rtab .any (opsOf Tryd.f12 7) = binary_Print.T7 := by kernel_rfl
theorem binary_Print.bits7 : waitsOk binary_Print.T7.2 binary_Print.B7 = true := by kernel_rfl
set_option maxHeartbeats 8000000 in
set_option maxRecDepth 100000 in
theorem binary_Print.calls (k : Nat) (A0 : Option Addr) (c0 : Nat) (l0 : List (S34)) (r1 : List Int) (r2 : Int) (w : World) (hr0 : Kd.C k34 w A0 l0.length l0) (hc0 : l0.length ≤ c0) (h : binary_Print.f k l0 = some (r1, r2)) (hT : KTab w) :
    Calls Tryd.prog 12 #[.slice A0 l0.length c0] w fun e w' => ∃ v0_ : Value, e = .returned (.tuple #[v0_, .int .i64 r2]) ∧ Kd.V (Kd.int .u8) 5 w' w.heap.size (fun k_ => (w.heap.size ≤ k_)) v0_ r1 ∧ Below w.heap.size w w' := by
  have HTAB := Aside0.mk hT
  clear hT
  have hu34 := Tryd.underlying34
  have HR0 := Aside0.mk hr0
  have HC0 := Aside0.mk hc0
  clear hr0 hc0
  have HB := Aside0.mk (Below.refl w.heap.size w)
  have H : ((text_Right.f l0).bind fun t109 => (if t109 = true then ((varint_Put.f (IntKind.u64.wrap ((l0.length : Int)))).bind fun t110 => (binary_Print.l0 k t110 l0 (l0.length : Int) 0)) else (some (([] : List Int), 1)))) = some (r1, r2) := h
  clear h
  replace H := Option.bind_eq_some_iff.mp H
  obtain ⟨t109, A20, H⟩ := H
  replace H : (if t109 = true then ((varint_Put.f (IntKind.u64.wrap ((l0.length : Int)))).bind fun t110 => (binary_Print.l0 k t110 l0 (l0.length : Int) 0)) else (some (([] : List Int), 1))) = some (r1, r2) := H
  have A2 := Aside0.mk A20
  clear A20
  by_cases c3 : t109 = true
  · subst c3
    have H1 : ((varint_Put.f (IntKind.u64.wrap ((l0.length : Int)))).bind fun t110 => (binary_Print.l0 k t110 l0 (l0.length : Int) 0)) = some (r1, r2) := by rw [if_pos rfl] at H; exact H
    clear H
    have H := H1
    clear H1
    replace H := Option.bind_eq_some_iff.mp H
    obtain ⟨t110, A40, H⟩ := H
    replace H : (binary_Print.l0 k t110 l0 (l0.length : Int) 0) = some (r1, r2) := H
    have A4 := Aside0.mk A40
    clear A40
    have H' := Aside0.mk H
    clear H
    go_enter Tryd.func12, Tryd.ntmps12
    go_wp2_with (first | ((with_reducible refine gate_callee (f := 31) rfl ?_); refine goesL_ (some 9) rfl rfl Tryd.func31 (by kernel_rfl) rfl #[.slice A0 l0.length c0] rfl (by (try simp only [List.map_toArray, List.map_cons, List.map_nil]); first | done | rfl | (simp only [List.length_drop, List.length_take]; rfl)) ?_; (with_reducible refine (text_Right.calls _ _ l0 true _ ?side1 ?side2 A2.out (KTab.below HTAB.out (by repeat (first | (with_reducible first | exact HB.out | apply below_alloc | apply pw_below_drewN | apply below_drew1) | exact HB.out)))).mono ?_); (case side1 => repeat (first | exact HR0.out | (with_reducible refine Kd.C_alloc ?_ _) | (with_reducible refine Kd.C_drewN ?_ _) | (with_reducible refine Kd.C_drew ?_))); (case side2 => exact HC0.out); rintro e w5 ⟨rfl, hb⟩; refine ⟨_, rfl, ?_⟩; have n0_ := Aside0.mk (below_step (by repeat (first | (with_reducible first | exact HB.out | apply below_alloc | apply pw_below_drewN | apply below_drew1) | exact HB.out)) hb); clear HB; have HB := n0_; clear n0_; (try clear hb); (try clear hb2); (try clear hk); (try clear hi)) | ((with_reducible refine gate_callee (f := 19) rfl ?_); refine goesL_ (some 14) rfl rfl Tryd.func19 (by kernel_rfl) rfl #[.int .u64 (IntKind.u64.wrap ((l0.length : Int)))] rfl (by (try simp only [List.map_toArray, List.map_cons, List.map_nil]); first | done | rfl | (simp only [List.length_drop, List.length_take]; rfl)) ?_; (with_reducible refine (varint_Put.calls (IntKind.u64.wrap ((l0.length : Int))) t110 _ A4.out).mono ?_); rintro e w6 ⟨v111, rfl, ho0, hb⟩; refine ⟨_, rfl, ?_⟩; have n0_ := Aside0.mk (Kd.V_lower (Kd.V_mono (ok' := fun k_ => (w.heap.size ≤ k_)) ho0 (fun k_ hk_ => (Nat.le_trans (below_size (by repeat (first | (with_reducible first | exact HB.out | apply below_alloc | apply pw_below_drewN | apply below_drew1) | exact HB.out))) hk_))) (below_size (by repeat (first | (with_reducible first | exact HB.out | apply below_alloc | apply pw_below_drewN | apply below_drew1) | exact HB.out)))); have n1_ := Aside0.mk (below_step (by repeat (first | (with_reducible first | exact HB.out | apply below_alloc | apply pw_below_drewN | apply below_drew1) | exact HB.out)) hb); clear HB; have HO112 := n0_; have HB := n1_; clear n0_ n1_; (try clear hb); (try clear hb2); (try clear hk); (try clear hi); (try clear ho0)))
    go_loopg [4, 17] k (fun kq v4 v17 w' => ∃ (x4_1 : List Int) (x17_1 : Int), v17 = .int .i64 x17_1 ∧ Aside0 (binary_Print.l0 kq x4_1 l0 (l0.length : Int) x17_1 = some (r1, r2)) ∧ Aside0 (kq ≤ k) ∧ Aside0 (Kd.V (Kd.int .u8) 5 w' w.heap.size (fun k_ => (w.heap.size ≤ k_)) v4 x4_1) ∧ Aside0 (Below w.heap.size w w'))
    case atStart => exact ⟨(t110), (0), (by first | rfl | (simp; done) | (simp [*]; done)), H', ⟨Nat.le_refl _⟩, ⟨by (with_reducible repeat (first | apply Kd.V_alloc | apply Kd.V_drewN | apply Kd.V_drew)); exact HO112.out⟩, ⟨by repeat (first | (with_reducible first | exact HB.out | apply below_alloc | apply pw_below_drewN | apply below_drew1) | exact HB.out)⟩⟩
    case round =>
      clear H'
      try clear c1
      try clear p2
      try clear c3
      obtain ⟨x4_1, x17_1, rfl, HA, HK1, HO_4, HB⟩ := hrel
      cases gk with
      | zero => exact absurd HA.out (by simp [binary_Print.l0])
      | succ k1 =>
        have H := HA.out
        clear HA
        simp only [binary_Print.l0] at H
        by_cases c7 : x17_1 < (l0.length : Int)
        · rw [if_pos c7] at H
          have c7b0 : decide (x17_1 < (l0.length : Int)) = true := decide_eq_true c7
          clear c7
          by_cases c8 : 0 ≤ x17_1
          · rw [if_pos c8] at H
            have c8b0 : decide (0 ≤ x17_1) = true := decide_eq_true c8
            clear c8
            by_cases c9 : x17_1 < (l0.length : Int)
            · rw [if_pos c9] at H
              have c9b0 : decide (x17_1 < (l0.length : Int)) = true := decide_eq_true c9
              clear c9
              obtain ⟨y115, hy115⟩ : ∃ y_ : List Int, y_ = (([((rd_T34 l0 x17_1).f0) % 256] : List Int)) := ⟨_, rfl⟩
              replace H : ((varint_Put.f (IntKind.u64.wrap ((rd_T34 l0 x17_1).f1))).bind fun t118 => (if y115.length + t118.length < 140737488355328 then ((some (y115 ++ t118 : List Int)).bind fun y121 => ((binary_variable.f ((rd_T34 l0 x17_1).f0)).bind fun t124 => (if t124 = true then ((varint_Put.f (IntKind.u64.wrap ((rd_T34 l0 x17_1).f2))).bind fun t125 => (if y121.length + t125.length < 140737488355328 then (binary_Print.j1 k1 x4_1 (y121 ++ t125) l0 (l0.length : Int) x17_1 ((rd_T34 l0 x17_1).f0) ((rd_T34 l0 x17_1).f1) ((rd_T34 l0 x17_1).f2) ((rd_T34 l0 x17_1).f3)) else (none))) else (binary_Print.j1 k1 x4_1 y121 l0 (l0.length : Int) x17_1 ((rd_T34 l0 x17_1).f0) ((rd_T34 l0 x17_1).f1) ((rd_T34 l0 x17_1).f2) ((rd_T34 l0 x17_1).f3))))) else (none))) = some (r1, r2) := by first | (rw [hy115]; with_reducible exact H) | (have H2_ := (Option.bind_some _ _).symm.trans H; rw [hy115]; with_reducible exact H2_) | (have H2_ := (Option.bind_some _ _).symm.trans H; with_reducible exact H2_) | with_reducible exact H | (rw [hy115]; exact H) | exact H
              have Ny115 := Aside0.mk hy115
              clear hy115
              replace H := Option.bind_eq_some_iff.mp H
              obtain ⟨t118, A100, H⟩ := H
              replace H : (if y115.length + t118.length < 140737488355328 then ((some (y115 ++ t118 : List Int)).bind fun y121 => ((binary_variable.f ((rd_T34 l0 x17_1).f0)).bind fun t124 => (if t124 = true then ((varint_Put.f (IntKind.u64.wrap ((rd_T34 l0 x17_1).f2))).bind fun t125 => (if y121.length + t125.length < 140737488355328 then (binary_Print.j1 k1 x4_1 (y121 ++ t125) l0 (l0.length : Int) x17_1 ((rd_T34 l0 x17_1).f0) ((rd_T34 l0 x17_1).f1) ((rd_T34 l0 x17_1).f2) ((rd_T34 l0 x17_1).f3)) else (none))) else (binary_Print.j1 k1 x4_1 y121 l0 (l0.length : Int) x17_1 ((rd_T34 l0 x17_1).f0) ((rd_T34 l0 x17_1).f1) ((rd_T34 l0 x17_1).f2) ((rd_T34 l0 x17_1).f3))))) else (none)) = some (r1, r2) := H
              have A10 := Aside0.mk A100
              clear A100
              by_cases c11 : y115.length + t118.length < 140737488355328
              · rw [if_pos c11] at H
                have LMc11 := Aside0.mk c11
                clear c11
                obtain ⟨y121, hy121⟩ : ∃ y_ : List Int, y_ = (y115 ++ t118) := ⟨_, rfl⟩
                replace H : ((binary_variable.f ((rd_T34 l0 x17_1).f0)).bind fun t124 => (if t124 = true then ((varint_Put.f (IntKind.u64.wrap ((rd_T34 l0 x17_1).f2))).bind fun t125 => (if y121.length + t125.length < 140737488355328 then (binary_Print.j1 k1 x4_1 (y121 ++ t125) l0 (l0.length : Int) x17_1 ((rd_T34 l0 x17_1).f0) ((rd_T34 l0 x17_1).f1) ((rd_T34 l0 x17_1).f2) ((rd_T34 l0 x17_1).f3)) else (none))) else (binary_Print.j1 k1 x4_1 y121 l0 (l0.length : Int) x17_1 ((rd_T34 l0 x17_1).f0) ((rd_T34 l0 x17_1).f1) ((rd_T34 l0 x17_1).f2) ((rd_T34 l0 x17_1).f3)))) = some (r1, r2) := by first | (rw [hy121]; with_reducible exact H) | (have H2_ := (Option.bind_some _ _).symm.trans H; rw [hy121]; with_reducible exact H2_) | (have H2_ := (Option.bind_some _ _).symm.trans H; with_reducible exact H2_) | with_reducible exact H | (rw [hy121]; exact H) | exact H
                have Ny121 := Aside0.mk hy121
                clear hy121
                replace H := Option.bind_eq_some_iff.mp H
                obtain ⟨t124, A120, H⟩ := H
                replace H : (if t124 = true then ((varint_Put.f (IntKind.u64.wrap ((rd_T34 l0 x17_1).f2))).bind fun t125 => (if y121.length + t125.length < 140737488355328 then (binary_Print.j1 k1 x4_1 (y121 ++ t125) l0 (l0.length : Int) x17_1 ((rd_T34 l0 x17_1).f0) ((rd_T34 l0 x17_1).f1) ((rd_T34 l0 x17_1).f2) ((rd_T34 l0 x17_1).f3)) else (none))) else (binary_Print.j1 k1 x4_1 y121 l0 (l0.length : Int) x17_1 ((rd_T34 l0 x17_1).f0) ((rd_T34 l0 x17_1).f1) ((rd_T34 l0 x17_1).f2) ((rd_T34 l0 x17_1).f3))) = some (r1, r2) := H
                have A12 := Aside0.mk A120
                clear A120
                have HC13 := Aside0.mk H
                clear H
                have p113 : 0 ≤ (x17_1 : Int) := of_decide_eq_true (by first | (with_reducible assumption) | assumption)
                have q113 : x17_1 < (l0.length : Int) := of_decide_eq_true (by first | (with_reducible assumption) | assumption)
                obtain ⟨ad113, e113, hx113_0, hx113_1, hx113_2, hx113_3⟩ := at_T34 HR0.out x17_1 p113 q113
                cases e113
                replace hx113_0 := (HB.out.cell (World.block_lt_of_cell? w _ hx113_0)).trans hx113_0
                replace hx113_1 := (HB.out.cell (World.block_lt_of_cell? w _ hx113_1)).trans hx113_1
                replace hx113_2 := (HB.out.cell (World.block_lt_of_cell? w _ hx113_2)).trans hx113_2
                replace hx113_3 := (HB.out.cell (World.block_lt_of_cell? w _ hx113_3)).trans hx113_3
                replace p113 := eq_true p113
                replace q113 := eq_true q113
                try go_wp2_with (first | ((with_reducible refine gate_dst (N := 6) rfl ?_); refine box_event ?hg (N := 6) ?hd (cs := #[.int .i64 0, .int .i64 0, .int .i64 0, .int .i64 0]) (t := 34) ?hr ?_; (case hd => rfl); (case hg => rfl); (case hr => first | (go_simp; done) | (go_simp; rfl)); intro gb114 hg w14 hbox hb; have n0_ := Aside0.mk (Kd.V_below (Kd.V_elderB (by (with_reducible repeat (first | apply Kd.V_alloc | apply Kd.V_drewN | apply Kd.V_drew)); exact HO_4.out) gb114 (Nat.le_of_eq hg.symm)) hb); have n1_ := Aside0.mk (below_step (by repeat (first | (with_reducible first | exact HB.out | apply below_alloc | apply pw_below_drewN | apply below_drew1) | exact HB.out)) hb); have n2_ := Aside0.mk (hbox); have n3_ := Aside0.mk ((by rw [hg]; exact (below_size (by repeat (first | (with_reducible first | exact HB.out | apply below_alloc | apply pw_below_drewN | apply below_drew1) | exact HB.out))) : w.heap.size ≤ gb114)); have n4_ := Aside0.mk ((by rw [hg]; exact (below_size (by repeat (first | (with_reducible first | exact HB.out | apply below_alloc | apply pw_below_drewN | apply below_drew1) | exact HB.out))) : w.heap.size ≤ gb114)); clear HO_4; clear HB; have HO_4 := n0_; have HB := n1_; have BK114 := n2_; have GW114 := n3_; have GE114 := n4_; clear n0_ n1_ n2_ n3_ n4_; clear hb hbox hg; have hcz15_0 : w14.cell? ⟨gb114, 0, none⟩ = some (.int .i64 0) := (blk_cell BK114.out 0).trans rfl; have hcz15_1 : w14.cell? ⟨gb114, 1, none⟩ = some (.int .i64 0) := (blk_cell BK114.out 1).trans rfl; have hcz15_2 : w14.cell? ⟨gb114, 2, none⟩ = some (.int .i64 0) := (blk_cell BK114.out 2).trans rfl; have hcz15_3 : w14.cell? ⟨gb114, 3, none⟩ = some (.int .i64 0) := (blk_cell BK114.out 3).trans rfl; have hfz15_0 := blk_frozen BK114.out 0; have hfz15_1 := blk_frozen BK114.out 1; have hfz15_2 := blk_frozen BK114.out 2; have hfz15_3 := blk_frozen BK114.out 3))
                have n0_ : Aside0 (Kd.V (Kd.int .u8) 5 ((((w14.setCell ⟨gb114, 0, none⟩ (.int .i64 ((rd_T34 l0 x17_1).f0))).setCell ⟨gb114, 1, none⟩ (.int .i64 ((rd_T34 l0 x17_1).f1))).setCell ⟨gb114, 2, none⟩ (.int .i64 ((rd_T34 l0 x17_1).f2))).setCell ⟨gb114, 3, none⟩ (.int .i64 ((rd_T34 l0 x17_1).f3))) w.heap.size (fun k_ => (w.heap.size ≤ k_) ∧ k_ ≠ gb114) u4 x4_1) := ⟨by (with_reducible repeat (first | apply Kd.V_alloc | apply Kd.V_drewN | apply Kd.V_drew)); exact Kd.V_mono (Kd.V_far (p := ⟨gb114, 3, none⟩) (Kd.V_far (p := ⟨gb114, 2, none⟩) (Kd.V_far (p := ⟨gb114, 1, none⟩) (Kd.V_far (p := ⟨gb114, 0, none⟩) (Kd.V_mono HO_4.out (fun k_ hk => (⟨hk, hk.2⟩ : _ ∧ k_ ≠ gb114))) (fun _ hk => hk.2) (.int .i64 ((rd_T34 l0 x17_1).f0))) (fun _ hk => hk.2) (.int .i64 ((rd_T34 l0 x17_1).f1))) (fun _ hk => hk.2) (.int .i64 ((rd_T34 l0 x17_1).f2))) (fun _ hk => hk.2) (.int .i64 ((rd_T34 l0 x17_1).f3))) (fun _ hk => ⟨hk.1.1, hk.1.2⟩)⟩
                have n1_ : Aside0 (((((w14.setCell ⟨gb114, 0, none⟩ (.int .i64 ((rd_T34 l0 x17_1).f0))).setCell ⟨gb114, 1, none⟩ (.int .i64 ((rd_T34 l0 x17_1).f1))).setCell ⟨gb114, 2, none⟩ (.int .i64 ((rd_T34 l0 x17_1).f2))).setCell ⟨gb114, 3, none⟩ (.int .i64 ((rd_T34 l0 x17_1).f3))).heap[gb114]? = some (.cells #[.int .i64 ((rd_T34 l0 x17_1).f0), .int .i64 ((rd_T34 l0 x17_1).f1), .int .i64 ((rd_T34 l0 x17_1).f2), .int .i64 ((rd_T34 l0 x17_1).f3)] 34 (0, 0))) := ⟨by (with_reducible repeat (first | refine blk_drewN ?_ _ | refine blk_drew ?_ | refine blk_alloc ?_ _)); refine blk_put (cs := #[.int .i64 ((rd_T34 l0 x17_1).f0), .int .i64 ((rd_T34 l0 x17_1).f1), .int .i64 ((rd_T34 l0 x17_1).f2), .int .i64 0]) ?_ 3 _ rfl; (with_reducible repeat (first | refine blk_drewN ?_ _ | refine blk_drew ?_ | refine blk_alloc ?_ _)); refine blk_put (cs := #[.int .i64 ((rd_T34 l0 x17_1).f0), .int .i64 ((rd_T34 l0 x17_1).f1), .int .i64 0, .int .i64 0]) ?_ 2 _ rfl; (with_reducible repeat (first | refine blk_drewN ?_ _ | refine blk_drew ?_ | refine blk_alloc ?_ _)); refine blk_put (cs := #[.int .i64 ((rd_T34 l0 x17_1).f0), .int .i64 0, .int .i64 0, .int .i64 0]) ?_ 1 _ rfl; (with_reducible repeat (first | refine blk_drewN ?_ _ | refine blk_drew ?_ | refine blk_alloc ?_ _)); refine blk_put (cs := #[.int .i64 0, .int .i64 0, .int .i64 0, .int .i64 0]) ?_ 0 _ rfl; (with_reducible repeat (first | refine blk_drewN ?_ _ | refine blk_drew ?_ | refine blk_alloc ?_ _)); exact BK114.out⟩
                have n2_ : Aside0 (Below w.heap.size w ((((w14.setCell ⟨gb114, 0, none⟩ (.int .i64 ((rd_T34 l0 x17_1).f0))).setCell ⟨gb114, 1, none⟩ (.int .i64 ((rd_T34 l0 x17_1).f1))).setCell ⟨gb114, 2, none⟩ (.int .i64 ((rd_T34 l0 x17_1).f2))).setCell ⟨gb114, 3, none⟩ (.int .i64 ((rd_T34 l0 x17_1).f3)))) := ⟨by repeat (first | (with_reducible first | exact HB.out | apply below_alloc | apply pw_below_drewN | apply below_drew1 | refine below_set ?_ GE114.out) | exact HB.out)⟩
                (try clear HO_4)
                (try clear BK114)
                (try clear HB)
                generalize ((((w14.setCell ⟨gb114, 0, none⟩ (.int .i64 ((rd_T34 l0 x17_1).f0))).setCell ⟨gb114, 1, none⟩ (.int .i64 ((rd_T34 l0 x17_1).f1))).setCell ⟨gb114, 2, none⟩ (.int .i64 ((rd_T34 l0 x17_1).f2))).setCell ⟨gb114, 3, none⟩ (.int .i64 ((rd_T34 l0 x17_1).f3))) = w16 at n0_ n1_ n2_ ⊢
                have HO_4 := n0_
                have BK114 := n1_
                have HB := n2_
                clear n0_ n1_ n2_
                have n0_ := Aside0.mk (Kd.V_drew HO_4.out)
                have n1_ := Aside0.mk (blk_drew BK114.out)
                have n2_ := Aside0.mk (below_drew1 HB.out)
                clear HO_4
                clear BK114
                clear HB
                have HO_4 := n0_
                have BK114 := n1_
                have HB := n2_
                clear n0_ n1_ n2_
                refine start_ (n := 10) (S := fun w' => w'.cell? ⟨gb114, 0, none⟩ = some (.int .i64 ((rd_T34 l0 x17_1).f0)) ∧ w'.cell? ⟨gb114, 1, none⟩ = some (.int .i64 ((rd_T34 l0 x17_1).f1)) ∧ w'.cell? ⟨gb114, 2, none⟩ = some (.int .i64 ((rd_T34 l0 x17_1).f2)) ∧ w'.cell? ⟨gb114, 3, none⟩ = some (.int .i64 ((rd_T34 l0 x17_1).f3))) (ds := []) #[false, false, false, false, false, false, false, false, false, false] (by kernel_rfl) rfl rfl ⟨(blk_cell BK114.out 0).trans rfl, (blk_cell BK114.out 1).trans rfl, (blk_cell BK114.out 2).trans rfl, (blk_cell BK114.out 3).trans rfl⟩ (fun hHeld => ?_); refine with_tabW binary_Print.tab7 binary_Print.bits7 (fun HT_ HW_ => ?_)
                generalize w16.drew = w17 at HO_4 BK114 HB hHeld ⊢
                refine pure_ (i := 0) (N := some 21) (v := ?_) (a' := ?_) #[true, false, false, false, false, false, false, false, false, false] rfl rfl (any_of HT_.out (by kernel_rfl)) (fun _ _ _ h => h) (Or.inl ⟨by rfl, ?_⟩) ?_ ?_
                rotate_left
                · intro w'
                  go_simp
                  with_reducible rfl
                rotate_left
                · simp only [Act.put, List.setIfInBounds_toArray, List.set_cons_zero, List.set_cons_succ, i64_w, i32_w]
                  rfl
                refine pure_ (i := 4) (N := some 25) (v := ?_) (a' := ?_) #[true, false, false, false, true, false, false, false, false, false] rfl rfl (any_of HT_.out (by kernel_rfl)) (fun _ _ _ h => h) (Or.inl ⟨by rfl, ?_⟩) ?_ ?_
                rotate_left
                · intro w'
                  go_simp
                  with_reducible rfl
                rotate_left
                · simp only [Act.put, List.setIfInBounds_toArray, List.set_cons_zero, List.set_cons_succ, i64_w, i32_w]
                  rfl
                refine take_ (i := 1) (N := some 22) (v := ?_) (a' := ?_) #[true, true, false, false, true, false, false, false, false, false] rfl rfl (take_ofW HT_.out HW_.out (by kernel_rfl)) (fun _ _ _ h => h) (Or.inl ⟨by rfl, ?_⟩) hHeld ?_ ?_
                rotate_left
                · rintro w' ⟨s0, s1, s2, s3⟩
                  go_simp
                  with_reducible rfl
                rotate_left
                · simp only [Act.put, List.setIfInBounds_toArray, List.set_cons_zero, List.set_cons_succ, i64_w, i32_w]
                  rfl
                refine pure_ (i := 2) (N := some 23) (v := ?_) (a' := ?_) #[true, true, true, false, true, false, false, false, false, false] rfl rfl (any_of HT_.out (by kernel_rfl)) (fun _ _ _ h => h) (Or.inl ⟨by rfl, ?_⟩) ?_ ?_
                rotate_left
                · intro w'
                  go_simp
                  with_reducible rfl
                rotate_left
                · simp only [Act.put, List.setIfInBounds_toArray, List.set_cons_zero, List.set_cons_succ, i64_w, i32_w]
                  rfl
                refine take_ (i := 5) (N := some 26) (v := ?_) (a' := ?_) #[true, true, true, false, true, true, false, false, false, false] rfl rfl (take_ofW HT_.out HW_.out (by kernel_rfl)) (fun _ _ _ h => h) (Or.inl ⟨by rfl, ?_⟩) hHeld ?_ ?_
                rotate_left
                · rintro w' ⟨s0, s1, s2, s3⟩
                  go_simp
                  with_reducible rfl
                rotate_left
                · simp only [Act.put, List.setIfInBounds_toArray, List.set_cons_zero, List.set_cons_succ, i64_w, i32_w]
                  rfl
                refine pure_ (i := 6) (N := some 27) (v := ?_) (a' := ?_) #[true, true, true, false, true, true, true, false, false, false] rfl rfl (any_of HT_.out (by kernel_rfl)) (fun _ _ _ h => h) (Or.inl ⟨by rfl, ?_⟩) ?_ ?_
                rotate_left
                · intro w'
                  go_simp
                  with_reducible rfl
                rotate_left
                · simp only [Act.put, List.setIfInBounds_toArray, List.set_cons_zero, List.set_cons_succ, i64_w, i32_w]
                  rfl
                refine join_ (σ := Value × Value) 2 #[true, true, true, true, true, true, true, true, false, false] (fun s_ => [(24, s_.1), (28, s_.2)]) (fun s_ w' => (w'.cell? ⟨gb114, 0, none⟩ = some (.int .i64 ((rd_T34 l0 x17_1).f0)) ∧ w'.cell? ⟨gb114, 1, none⟩ = some (.int .i64 ((rd_T34 l0 x17_1).f1)) ∧ w'.cell? ⟨gb114, 2, none⟩ = some (.int .i64 ((rd_T34 l0 x17_1).f2)) ∧ w'.cell? ⟨gb114, 3, none⟩ = some (.int .i64 ((rd_T34 l0 x17_1).f3))) ∧ (Kd.R (Kd.int .u8) 5 w' w.heap.size (fun k_ => (w.heap.size ≤ k_)) s_.1 y115) ∧ (Kd.V (Kd.int .u8) 5 w' w.heap.size (fun k_ => (w.heap.size ≤ k_) ∧ some k_ ≠ (s_.1 : Value).ownBlock ∧ k_ ≠ gb114) s_.2 t118) ∧ (Kd.V (Kd.int .u8) 5 w' w.heap.size (fun k_ => (w.heap.size ≤ k_) ∧ some k_ ≠ (s_.1 : Value).ownBlock ∧ k_ ≠ gb114) u4 x4_1) ∧ (w'.heap[gb114]? = some (.cells #[.int .i64 ((rd_T34 l0 x17_1).f0), .int .i64 ((rd_T34 l0 x17_1).f1), .int .i64 ((rd_T34 l0 x17_1).f2), .int .i64 ((rd_T34 l0 x17_1).f3)] 34 (0, 0))) ∧ (Below w.heap.size w w')) ?_ ?_
                rotate_left
                · intro hCont
                  refine two_ (i := 3) (j := 7) (Ni := some 24) (Nj := some 28) #[true, true, true, true, true, true, true, false, false, false] #[true, true, true, false, true, true, true, true, false, false] rfl rfl rfl rfl (two_of HT_.out (by kernel_rfl)) (by decide) (by decide) (fun K hK => ?_) (fun K hK => ?_)
                  · skip
                    refine Kd.R_lit_step (Kd.int .u8) _ 5 ?hg (N := 24) ?hd (xs := ([((rd_T34 l0 x17_1).f0) % 256] : List Int)) (inner := [.int .u8 (((rd_T34 l0 x17_1).f0) % 256)]) (ok := fun _ => True) (okp := fun _ => True) ?hr ?hp (fun _ hk => hk) trivial (Below.refl _ _) (Nat.le_refl _) (by simp) ?_; (case hd => rfl); (case hg => rfl); (case hr => first | (go_simp; done) | (go_simp; rfl)); (case hp => exact (Reps.one (show Kd.M (Kd.int .u8) _ _ _ (((rd_T34 l0 x17_1).f0) % 256) [.int .u8 (((rd_T34 l0 x17_1).f0) % 256)] from rfl) (Reps.none _ _)))
                    intro v116 w18 ho19 hb hg_ hnew_
                    clear hg_ hnew_
                    (first | rw [← Ny115.out] at ho19 | (simp only [Int.reduceToNat] at ho19; rw [← Ny115.out] at ho19))
                    have n0_ := Aside0.mk (Kd.V_elder' (by (with_reducible repeat (first | apply Kd.V_alloc | apply Kd.V_drewN | apply Kd.V_drew)); exact HO_4.out) (Kd.R_base ho19) hb)
                    have n1_ := Aside0.mk (Kd.R_lower (Kd.R_newM (M := fun k_ => (w.heap.size ≤ k_)) ho19 (below_size (by repeat (first | (with_reducible first | exact HB.out | apply below_alloc | apply pw_below_drewN | apply below_drew1 | refine below_set ?_ GE114.out) | exact HB.out))) (fun k_ h_ => h_)) (below_size (by repeat (first | (with_reducible first | exact HB.out | apply below_alloc | apply pw_below_drewN | apply below_drew1 | refine below_set ?_ GE114.out) | exact HB.out))))
                    have n2_ := Aside0.mk (blk_below (g := gb114) (o := .cells #[.int .i64 ((rd_T34 l0 x17_1).f0), .int .i64 ((rd_T34 l0 x17_1).f1), .int .i64 ((rd_T34 l0 x17_1).f2), .int .i64 ((rd_T34 l0 x17_1).f3)] 34 (0, 0)) (by (with_reducible repeat (first | refine blk_drewN ?_ _ | refine blk_drew ?_ | refine blk_alloc ?_ _)); exact BK114.out) hb)
                    have n3_ := Aside0.mk (below_step (by repeat (first | (with_reducible first | exact HB.out | apply below_alloc | apply pw_below_drewN | apply below_drew1 | refine below_set ?_ GE114.out) | exact HB.out)) hb)
                    clear HO_4
                    clear BK114
                    clear HB
                    have HO_4 := n0_
                    have HO117 := n1_
                    have BK114 := n2_
                    have HB := n3_
                    clear n0_ n1_ n2_ n3_
                    clear hb ho19
                    refine hK.out _ _ ⟨(blk_cell BK114.out 0).trans rfl, (blk_cell BK114.out 1).trans rfl, (blk_cell BK114.out 2).trans rfl, (blk_cell BK114.out 3).trans rfl⟩ (fun hHeld => ?_)
                    clear hK K
                    refine norm_ (a' := ?_) ?_ ?_
                    rotate_left
                    · show Act.put _ (some 24) _ = _
                      simp only [Act.put, List.setIfInBounds_toArray, List.set_cons_zero, List.set_cons_succ, i64_w, i32_w]
                      rfl
                    refine one_ (i := 7) (N := some 28) #[true, true, true, true, true, true, true, true, false, false] rfl rfl (one_of HT_.out (by kernel_rfl)) (by decide) (fun K hK => ?_)
                    refine goes_ Tryd.func19 (by kernel_rfl) rfl #[.int .u64 (IntKind.u64.wrap ((rd_T34 l0 x17_1).f1))] (by rfl) rfl rfl (by (try simp only [List.map_toArray, List.map_cons, List.map_nil]); first | done | rfl | (simp only [List.length_drop, List.length_take]; rfl)) ?_
                    with_reducible refine (varint_Put.calls (IntKind.u64.wrap ((rd_T34 l0 x17_1).f1)) t118 _ A10.out).mono ?_
                    rintro e w20 ⟨v119, rfl, ho0, hb⟩
                    refine ⟨_, rfl, ?_⟩
                    have n0_ := Aside0.mk (Kd.V_below (by (with_reducible repeat (first | apply Kd.V_alloc | apply Kd.V_drewN | apply Kd.V_drew)); exact HO_4.out) hb)
                    have n1_ := Aside0.mk (Kd.R_below (by (with_reducible repeat (first | apply Kd.R_alloc | apply Kd.R_drewN | apply Kd.R_drew)); exact HO117.out) hb)
                    have n2_ := Aside0.mk (Kd.V_lower (Kd.V_mono (ok' := fun k_ => (w.heap.size ≤ k_) ∧ some k_ ≠ (v116 : Value).ownBlock ∧ k_ ≠ gb114) ho0 (fun k_ hk_ => ⟨(Nat.le_trans (below_size (by repeat (first | (with_reducible first | exact HB.out | apply below_alloc | apply pw_below_drewN | apply below_drew1 | refine below_set ?_ GE114.out) | exact HB.out))) hk_), (Kd.fresh' (Kd.R_lt (by (with_reducible repeat (first | apply Kd.R_alloc | apply Kd.R_drewN | apply Kd.R_drew)); exact HO117.out)) k_ hk_), (Kd.freshB (g := gb114) (o := .cells #[.int .i64 ((rd_T34 l0 x17_1).f0), .int .i64 ((rd_T34 l0 x17_1).f1), .int .i64 ((rd_T34 l0 x17_1).f2), .int .i64 ((rd_T34 l0 x17_1).f3)] 34 (0, 0)) (by (with_reducible repeat (first | refine blk_drewN ?_ _ | refine blk_drew ?_ | refine blk_alloc ?_ _)); exact BK114.out) k_ hk_)⟩)) (below_size (by repeat (first | (with_reducible first | exact HB.out | apply below_alloc | apply pw_below_drewN | apply below_drew1 | refine below_set ?_ GE114.out) | exact HB.out))))
                    have n3_ := Aside0.mk (blk_below (g := gb114) (o := .cells #[.int .i64 ((rd_T34 l0 x17_1).f0), .int .i64 ((rd_T34 l0 x17_1).f1), .int .i64 ((rd_T34 l0 x17_1).f2), .int .i64 ((rd_T34 l0 x17_1).f3)] 34 (0, 0)) (by (with_reducible repeat (first | refine blk_drewN ?_ _ | refine blk_drew ?_ | refine blk_alloc ?_ _)); exact BK114.out) hb)
                    have n4_ := Aside0.mk (below_step (by repeat (first | (with_reducible first | exact HB.out | apply below_alloc | apply pw_below_drewN | apply below_drew1 | refine below_set ?_ GE114.out) | exact HB.out)) hb)
                    clear HO_4
                    clear HO117
                    clear BK114
                    clear HB
                    have HO_4 := n0_
                    have HO117 := n1_
                    have HO120 := n2_
                    have BK114 := n3_
                    have HB := n4_
                    clear n0_ n1_ n2_ n3_ n4_
                    (try clear hb)
                    (try clear hb2)
                    (try clear hk)
                    (try clear hi)
                    (try clear ho0)
                    refine hK.out _ _ ⟨(blk_cell BK114.out 0).trans rfl, (blk_cell BK114.out 1).trans rfl, (blk_cell BK114.out 2).trans rfl, (blk_cell BK114.out 3).trans rfl⟩ (fun hHeld => ?_)
                    clear hK K
                    refine norm_ (a' := ?_) ?_ ?_
                    rotate_left
                    · show Act.put _ (some 28) _ = _
                      simp only [Act.put, List.setIfInBounds_toArray, List.set_cons_zero, List.set_cons_succ, i64_w, i32_w]
                      rfl
                    exact norm_ (by simp only [putAll, Act.put, List.setIfInBounds_toArray, List.set_cons_zero, List.set_cons_succ]) (hCont (v116, v119) _ ⟨hHeld, (by (with_reducible repeat (first | apply Kd.R_alloc | apply Kd.R_drewN | apply Kd.R_drew)); exact Kd.R_mono HO117.out (fun _ hk => hk.1)), (by (with_reducible repeat (first | apply Kd.V_alloc | apply Kd.V_drewN | apply Kd.V_drew)); exact HO120.out), (by (with_reducible repeat (first | apply Kd.V_alloc | apply Kd.V_drewN | apply Kd.V_drew)); exact Kd.V_mono HO_4.out (fun _ hk => ⟨hk.1.1, ⟨hk.2, hk.1.2⟩⟩)), (by (with_reducible repeat (first | refine blk_drewN ?_ _ | refine blk_drew ?_ | refine blk_alloc ?_ _)); exact BK114.out), (by repeat (first | (with_reducible first | exact HB.out | apply below_alloc | apply pw_below_drewN | apply below_drew1 | refine below_set ?_ GE114.out) | exact HB.out))⟩)
                  · skip
                    refine goes_ Tryd.func19 (by kernel_rfl) rfl #[.int .u64 (IntKind.u64.wrap ((rd_T34 l0 x17_1).f1))] (by rfl) rfl rfl (by (try simp only [List.map_toArray, List.map_cons, List.map_nil]); first | done | rfl | (simp only [List.length_drop, List.length_take]; rfl)) ?_
                    with_reducible refine (varint_Put.calls (IntKind.u64.wrap ((rd_T34 l0 x17_1).f1)) t118 _ A10.out).mono ?_
                    rintro e w18 ⟨v119, rfl, ho0, hb⟩
                    refine ⟨_, rfl, ?_⟩
                    have n0_ := Aside0.mk (Kd.V_below (by (with_reducible repeat (first | apply Kd.V_alloc | apply Kd.V_drewN | apply Kd.V_drew)); exact HO_4.out) hb)
                    have n1_ := Aside0.mk (Kd.V_lower (Kd.V_mono (ok' := fun k_ => (w.heap.size ≤ k_) ∧ k_ ≠ gb114) ho0 (fun k_ hk_ => ⟨(Nat.le_trans (below_size (by repeat (first | (with_reducible first | exact HB.out | apply below_alloc | apply pw_below_drewN | apply below_drew1 | refine below_set ?_ GE114.out) | exact HB.out))) hk_), (Kd.freshB (g := gb114) (o := .cells #[.int .i64 ((rd_T34 l0 x17_1).f0), .int .i64 ((rd_T34 l0 x17_1).f1), .int .i64 ((rd_T34 l0 x17_1).f2), .int .i64 ((rd_T34 l0 x17_1).f3)] 34 (0, 0)) (by (with_reducible repeat (first | refine blk_drewN ?_ _ | refine blk_drew ?_ | refine blk_alloc ?_ _)); exact BK114.out) k_ hk_)⟩)) (below_size (by repeat (first | (with_reducible first | exact HB.out | apply below_alloc | apply pw_below_drewN | apply below_drew1 | refine below_set ?_ GE114.out) | exact HB.out))))
                    have n2_ := Aside0.mk (blk_below (g := gb114) (o := .cells #[.int .i64 ((rd_T34 l0 x17_1).f0), .int .i64 ((rd_T34 l0 x17_1).f1), .int .i64 ((rd_T34 l0 x17_1).f2), .int .i64 ((rd_T34 l0 x17_1).f3)] 34 (0, 0)) (by (with_reducible repeat (first | refine blk_drewN ?_ _ | refine blk_drew ?_ | refine blk_alloc ?_ _)); exact BK114.out) hb)
                    have n3_ := Aside0.mk (below_step (by repeat (first | (with_reducible first | exact HB.out | apply below_alloc | apply pw_below_drewN | apply below_drew1 | refine below_set ?_ GE114.out) | exact HB.out)) hb)
                    clear HO_4
                    clear BK114
                    clear HB
                    have HO_4 := n0_
                    have HO120 := n1_
                    have BK114 := n2_
                    have HB := n3_
                    clear n0_ n1_ n2_ n3_
                    (try clear hb)
                    (try clear hb2)
                    (try clear hk)
                    (try clear hi)
                    (try clear ho0)
                    refine hK.out _ _ ⟨(blk_cell BK114.out 0).trans rfl, (blk_cell BK114.out 1).trans rfl, (blk_cell BK114.out 2).trans rfl, (blk_cell BK114.out 3).trans rfl⟩ (fun hHeld => ?_)
                    clear hK K
                    refine norm_ (a' := ?_) ?_ ?_
                    rotate_left
                    · show Act.put _ (some 28) _ = _
                      simp only [Act.put, List.setIfInBounds_toArray, List.set_cons_zero, List.set_cons_succ, i64_w, i32_w]
                      rfl
                    refine one_ (i := 3) (N := some 24) #[true, true, true, true, true, true, true, true, false, false] rfl rfl (one_of HT_.out (by kernel_rfl)) (by decide) (fun K hK => ?_)
                    refine Kd.R_lit_step (Kd.int .u8) _ 5 ?hg (N := 24) ?hd (xs := ([((rd_T34 l0 x17_1).f0) % 256] : List Int)) (inner := [.int .u8 (((rd_T34 l0 x17_1).f0) % 256)]) (ok := fun _ => True) (okp := fun _ => True) ?hr ?hp (fun _ hk => hk) trivial (Below.refl _ _) (Nat.le_refl _) (by simp) ?_; (case hd => rfl); (case hg => rfl); (case hr => first | (go_simp; done) | (go_simp; rfl)); (case hp => exact (Reps.one (show Kd.M (Kd.int .u8) _ _ _ (((rd_T34 l0 x17_1).f0) % 256) [.int .u8 (((rd_T34 l0 x17_1).f0) % 256)] from rfl) (Reps.none _ _)))
                    intro v116 w19 ho20 hb hg_ hnew_
                    clear hg_ hnew_
                    (first | rw [← Ny115.out] at ho20 | (simp only [Int.reduceToNat] at ho20; rw [← Ny115.out] at ho20))
                    have n0_ := Aside0.mk (Kd.V_elder' (by (with_reducible repeat (first | apply Kd.V_alloc | apply Kd.V_drewN | apply Kd.V_drew)); exact HO_4.out) (Kd.R_base ho20) hb)
                    have n1_ := Aside0.mk (Kd.V_elder' (by (with_reducible repeat (first | apply Kd.V_alloc | apply Kd.V_drewN | apply Kd.V_drew)); exact HO120.out) (Kd.R_base ho20) hb)
                    have n2_ := Aside0.mk (Kd.R_lower (Kd.R_newM (M := fun k_ => (w.heap.size ≤ k_)) ho20 (below_size (by repeat (first | (with_reducible first | exact HB.out | apply below_alloc | apply pw_below_drewN | apply below_drew1 | refine below_set ?_ GE114.out) | exact HB.out))) (fun k_ h_ => h_)) (below_size (by repeat (first | (with_reducible first | exact HB.out | apply below_alloc | apply pw_below_drewN | apply below_drew1 | refine below_set ?_ GE114.out) | exact HB.out))))
                    have n3_ := Aside0.mk (blk_below (g := gb114) (o := .cells #[.int .i64 ((rd_T34 l0 x17_1).f0), .int .i64 ((rd_T34 l0 x17_1).f1), .int .i64 ((rd_T34 l0 x17_1).f2), .int .i64 ((rd_T34 l0 x17_1).f3)] 34 (0, 0)) (by (with_reducible repeat (first | refine blk_drewN ?_ _ | refine blk_drew ?_ | refine blk_alloc ?_ _)); exact BK114.out) hb)
                    have n4_ := Aside0.mk (below_step (by repeat (first | (with_reducible first | exact HB.out | apply below_alloc | apply pw_below_drewN | apply below_drew1 | refine below_set ?_ GE114.out) | exact HB.out)) hb)
                    clear HO_4
                    clear HO120
                    clear BK114
                    clear HB
                    have HO_4 := n0_
                    have HO120 := n1_
                    have HO117 := n2_
                    have BK114 := n3_
                    have HB := n4_
                    clear n0_ n1_ n2_ n3_ n4_
                    clear hb ho20
                    refine hK.out _ _ ⟨(blk_cell BK114.out 0).trans rfl, (blk_cell BK114.out 1).trans rfl, (blk_cell BK114.out 2).trans rfl, (blk_cell BK114.out 3).trans rfl⟩ (fun hHeld => ?_)
                    clear hK K
                    refine norm_ (a' := ?_) ?_ ?_
                    rotate_left
                    · show Act.put _ (some 24) _ = _
                      simp only [Act.put, List.setIfInBounds_toArray, List.set_cons_zero, List.set_cons_succ, i64_w, i32_w]
                      rfl
                    exact norm_ (by simp only [putAll, Act.put, List.setIfInBounds_toArray, List.set_cons_zero, List.set_cons_succ]) (hCont (v116, v119) _ ⟨hHeld, (by (with_reducible repeat (first | apply Kd.R_alloc | apply Kd.R_drewN | apply Kd.R_drew)); exact Kd.R_mono HO117.out (fun _ hk => hk.1)), (by (with_reducible repeat (first | apply Kd.V_alloc | apply Kd.V_drewN | apply Kd.V_drew)); exact Kd.V_mono HO120.out (fun _ hk => ⟨hk.1.1, ⟨hk.2, hk.1.2⟩⟩)), (by (with_reducible repeat (first | apply Kd.V_alloc | apply Kd.V_drewN | apply Kd.V_drew)); exact Kd.V_mono HO_4.out (fun _ hk => ⟨hk.1.1, ⟨hk.2, hk.1.2⟩⟩)), (by (with_reducible repeat (first | refine blk_drewN ?_ _ | refine blk_drew ?_ | refine blk_alloc ?_ _)); exact BK114.out), (by repeat (first | (with_reducible first | exact HB.out | apply below_alloc | apply pw_below_drewN | apply below_drew1 | refine below_set ?_ GE114.out) | exact HB.out))⟩)
                rintro ⟨v116, v119⟩ w21 ⟨hS_, h0_, h1_, h2_, h3_, h4_⟩
                have n0_ : Aside0 (Kd.R (Kd.int .u8) 5 w21 w.heap.size (fun k_ => (w.heap.size ≤ k_)) v116 y115) := ⟨h0_⟩
                have n1_ : Aside0 (Kd.V (Kd.int .u8) 5 w21 w.heap.size (fun k_ => (w.heap.size ≤ k_) ∧ some k_ ≠ (v116 : Value).ownBlock ∧ k_ ≠ gb114) v119 t118) := ⟨h1_⟩
                have n2_ : Aside0 (Kd.V (Kd.int .u8) 5 w21 w.heap.size (fun k_ => (w.heap.size ≤ k_) ∧ some k_ ≠ (v116 : Value).ownBlock ∧ k_ ≠ gb114) u4 x4_1) := ⟨h2_⟩
                have n3_ : Aside0 (w21.heap[gb114]? = some (.cells #[.int .i64 ((rd_T34 l0 x17_1).f0), .int .i64 ((rd_T34 l0 x17_1).f1), .int .i64 ((rd_T34 l0 x17_1).f2), .int .i64 ((rd_T34 l0 x17_1).f3)] 34 (0, 0))) := ⟨h3_⟩
                have n4_ : Aside0 (Below w.heap.size w w21) := ⟨h4_⟩
                clear HO_4
                clear BK114
                clear HB
                clear h0_ h1_ h2_ h3_ h4_
                have HO117 := n0_
                have HO120 := n1_
                have HO_4 := n2_
                have BK114 := n3_
                have HB := n4_
                clear n0_ n1_ n2_ n3_ n4_
                have hHeld : w21.cell? ⟨gb114, 0, none⟩ = some (.int .i64 ((rd_T34 l0 x17_1).f0)) ∧ w21.cell? ⟨gb114, 1, none⟩ = some (.int .i64 ((rd_T34 l0 x17_1).f1)) ∧ w21.cell? ⟨gb114, 2, none⟩ = some (.int .i64 ((rd_T34 l0 x17_1).f2)) ∧ w21.cell? ⟨gb114, 3, none⟩ = some (.int .i64 ((rd_T34 l0 x17_1).f3)) := hS_
                obtain ⟨Ao23, co23, eo23⟩ := Kd.V_slice HO120.out
                (first | subst eo23 | (injection eo23 with f1_ f2_ f3_; have f4_ := f1_.symm; have f5_ := f3_.symm; clear f1_ f2_ f3_; subst f4_; subst f5_))
                refine norm_ (a' := ?_) ?_ ?_
                rotate_left
                · simp only [putAll, Act.put, List.setIfInBounds_toArray, List.set_cons_zero, List.set_cons_succ]
                  rfl
                refine one_ (i := 8) (N := some 29) #[true, true, true, true, true, true, true, true, true, false] rfl rfl (one_of HT_.out (by kernel_rfl)) (by decide) (fun K hK => ?_)
                refine Kd.R_append_rows_step (Kd.int .u8) (w0 := w) w.heap.size (by rfl) (.tmp 24) (.tmp 28) 23 5 (.int .u8 0) 1 rfl Tryd.underlying23 info5 rfl (by decide) (by omega) v116 y115 t118 _ _ _ (fun k_ => (w.heap.size ≤ k_)) (fun _ => False) rfl rfl ?aO ?aR (fun _ _ h => h) (fun _ h => h.elim) ?aF ?aB ?aS ?aL ?_
                (case aR => repeat (first | exact (Kd.V_reads' HO120.out).2.2 | (with_reducible refine Kd.C_alloc ?_ _) | (with_reducible refine Kd.C_drewN ?_ _) | (with_reducible refine Kd.C_drew ?_)))
                (case aB => exact (by repeat (first | (with_reducible first | exact HB.out | apply below_alloc | apply pw_below_drewN | apply below_drew1 | refine below_set ?_ GE114.out) | exact HB.out)))
                (case aF => exact (fun k_ hk => (Nat.le_trans (below_size (by repeat (first | (with_reducible first | exact HB.out | apply below_alloc | apply pw_below_drewN | apply below_drew1 | refine below_set ?_ GE114.out) | exact HB.out))) hk)))
                (case aO => exact (by (with_reducible repeat (first | apply Kd.R_alloc | apply Kd.R_drewN | apply Kd.R_drew)); exact HO117.out))
                (case aS => exact (below_size (by repeat (first | (with_reducible first | exact HB.out | apply below_alloc | apply pw_below_drewN | apply below_drew1 | refine below_set ?_ GE114.out) | exact HB.out))))
                (case aL => have := LMc11.out; omega)
                intro v122 w22 ho hb hg hat
                rw [← Ny121.out] at ho
                have n0_ := Aside0.mk (Kd.V_afterv (ok := (fun k_ => (w.heap.size ≤ k_) ∧ k_ ≠ gb114)) (by (with_reducible repeat (first | apply Kd.V_alloc | apply Kd.V_drewN | apply Kd.V_drew)); exact Kd.V_mono HO_4.out (fun _ hk => ⟨⟨hk.1, hk.2.2⟩, hk.2.1⟩)) hg hat)
                have n1_ := Aside0.mk (blk_grown (g := gb114) (o := .cells #[.int .i64 ((rd_T34 l0 x17_1).f0), .int .i64 ((rd_T34 l0 x17_1).f1), .int .i64 ((rd_T34 l0 x17_1).f2), .int .i64 ((rd_T34 l0 x17_1).f3)] 34 (0, 0)) (by (with_reducible repeat (first | refine blk_drewN ?_ _ | refine blk_drew ?_ | refine blk_alloc ?_ _)); exact BK114.out) hg (Kd.R_ne HO117.out BK114.out (by decide)))
                have n2_ := Aside0.mk (Kd.V_afterv (ok := (fun k_ => (w.heap.size ≤ k_) ∧ k_ ≠ gb114)) (by (with_reducible repeat (first | apply Kd.V_alloc | apply Kd.V_drewN | apply Kd.V_drew)); exact Kd.V_mono HO120.out (fun _ hk => ⟨⟨hk.1, hk.2.2⟩, hk.2.1⟩)) hg hat)
                have n3_ := Aside0.mk (hb)
                have n4_ := Aside0.mk (ho)
                clear HO_4
                clear BK114
                clear HO120
                clear HB
                clear HO117
                have HO_4 := n0_
                have BK114 := n1_
                have HO120 := n2_
                have HB := n3_
                have HO123 := n4_
                clear n0_ n1_ n2_ n3_ n4_
                clear ho hb hg hat
                refine hK.out _ _ ⟨(blk_cell BK114.out 0).trans rfl, (blk_cell BK114.out 1).trans rfl, (blk_cell BK114.out 2).trans rfl, (blk_cell BK114.out 3).trans rfl⟩ (fun hHeld => ?_)
                clear hK K
                refine norm_ (a' := ?_) ?_ ?_
                rotate_left
                · show Act.put _ (some 29) _ = _
                  simp only [Act.put, List.setIfInBounds_toArray, List.set_cons_zero, List.set_cons_succ, i64_w, i32_w]
                  rfl
                refine pure_ (i := 9) (N := some 7) (v := ?_) (a' := ?_) #[true, true, true, true, true, true, true, true, true, true] rfl rfl (any_of HT_.out (by kernel_rfl)) (fun _ _ _ h => h) (Or.inl ⟨by rfl, ?_⟩) ?_ ?_
                rotate_left
                · intro w'
                  go_simp
                  with_reducible rfl
                rotate_left
                · simp only [Act.put, List.setIfInBounds_toArray, List.set_cons_zero, List.set_cons_succ, i64_w, i32_w]
                  rfl
                refine done_ (done_of HT_.out (by kernel_rfl)) ?_
                have hcz24_0 : w22.cell? ⟨gb114, 0, none⟩ = some (.int .i64 ((rd_T34 l0 x17_1).f0)) := (blk_cell BK114.out 0).trans rfl
                have hcz24_1 : w22.cell? ⟨gb114, 1, none⟩ = some (.int .i64 ((rd_T34 l0 x17_1).f1)) := (blk_cell BK114.out 1).trans rfl
                have hcz24_2 : w22.cell? ⟨gb114, 2, none⟩ = some (.int .i64 ((rd_T34 l0 x17_1).f2)) := (blk_cell BK114.out 2).trans rfl
                have hcz24_3 : w22.cell? ⟨gb114, 3, none⟩ = some (.int .i64 ((rd_T34 l0 x17_1).f3)) := (blk_cell BK114.out 3).trans rfl
                have hfz24_0 := blk_frozen BK114.out 0
                have hfz24_1 := blk_frozen BK114.out 1
                have hfz24_2 := blk_frozen BK114.out 2
                have hfz24_3 := blk_frozen BK114.out 3
                go_upto_if 32 with (first | ((with_reducible refine gate_callee (f := 39) rfl ?_); refine goesL_ (some 32) rfl rfl Tryd.func39 (by kernel_rfl) rfl #[.int .i64 ((rd_T34 l0 x17_1).f0)] rfl (by (try simp only [List.map_toArray, List.map_cons, List.map_nil]); first | done | rfl | (simp only [List.length_drop, List.length_take]; rfl)) ?_; (with_reducible refine (binary_variable.calls ((rd_T34 l0 x17_1).f0) t124 _ A12.out).mono ?_); rintro e w' ⟨rfl, ⟨nd, rfl⟩⟩; refine ⟨_, rfl, ?_⟩))
                (try simp only [Act.put, List.setIfInBounds_toArray, List.set_cons_zero, List.set_cons_succ])
                go_cut [7] (fun v7 wc => ∃ (kq : Nat) (x7_12 : List Int), Aside0 (binary_Print.j1 kq x4_1 x7_12 l0 (l0.length : Int) x17_1 ((rd_T34 l0 x17_1).f0) ((rd_T34 l0 x17_1).f1) ((rd_T34 l0 x17_1).f2) ((rd_T34 l0 x17_1).f3) = some (r1, r2)) ∧ Aside0 (kq ≤ k1) ∧ Aside0 (Kd.V (Kd.int .u8) 5 wc w.heap.size (fun k_ => (w.heap.size ≤ k_) ∧ some k_ ≠ (v7 : Value).ownBlock ∧ k_ ≠ gb114) u4 x4_1) ∧ Aside0 (Kd.R (Kd.int .u8) 5 wc w.heap.size (fun k_ => (w.heap.size ≤ k_)) v7 x7_12) ∧ Aside0 (wc.heap[gb114]? = some (.cells #[.int .i64 ((rd_T34 l0 x17_1).f0), .int .i64 ((rd_T34 l0 x17_1).f1), .int .i64 ((rd_T34 l0 x17_1).f2), .int .i64 ((rd_T34 l0 x17_1).f3)] 34 (0, 0))) ∧ Aside0 (Below w.heap.size w wc))
                case first =>
                  have H := HC13.out
                  clear HC13
                  by_cases c25 : t124 = true
                  · subst c25
                    have H1 : ((varint_Put.f (IntKind.u64.wrap ((rd_T34 l0 x17_1).f2))).bind fun t125 => (if y121.length + t125.length < 140737488355328 then (binary_Print.j1 k1 x4_1 (y121 ++ t125) l0 (l0.length : Int) x17_1 ((rd_T34 l0 x17_1).f0) ((rd_T34 l0 x17_1).f1) ((rd_T34 l0 x17_1).f2) ((rd_T34 l0 x17_1).f3)) else (none))) = some (r1, r2) := by rw [if_pos rfl] at H; exact H
                    clear H
                    have H := H1
                    clear H1
                    replace H := Option.bind_eq_some_iff.mp H
                    obtain ⟨t125, A260, H⟩ := H
                    replace H : (if y121.length + t125.length < 140737488355328 then (binary_Print.j1 k1 x4_1 (y121 ++ t125) l0 (l0.length : Int) x17_1 ((rd_T34 l0 x17_1).f0) ((rd_T34 l0 x17_1).f1) ((rd_T34 l0 x17_1).f2) ((rd_T34 l0 x17_1).f3)) else (none)) = some (r1, r2) := H
                    have A26 := Aside0.mk A260
                    clear A260
                    by_cases c27 : y121.length + t125.length < 140737488355328
                    · rw [if_pos c27] at H
                      have LMc27 := Aside0.mk c27
                      clear c27
                      obtain ⟨y128, hy128⟩ : ∃ y_ : List Int, y_ = (y121 ++ t125) := ⟨_, rfl⟩
                      replace H : (binary_Print.j1 k1 x4_1 y128 l0 (l0.length : Int) x17_1 ((rd_T34 l0 x17_1).f0) ((rd_T34 l0 x17_1).f1) ((rd_T34 l0 x17_1).f2) ((rd_T34 l0 x17_1).f3)) = some (r1, r2) := by first | (rw [hy128]; with_reducible exact H) | (have H2_ := (Option.bind_some _ _).symm.trans H; rw [hy128]; with_reducible exact H2_) | (have H2_ := (Option.bind_some _ _).symm.trans H; with_reducible exact H2_) | with_reducible exact H | (rw [hy128]; exact H) | exact H
                      have Ny128 := Aside0.mk hy128
                      clear hy128
                      have H' := Aside0.mk H
                      clear H
                      have hcz28_0 : w22.cell? ⟨gb114, 0, none⟩ = some (.int .i64 ((rd_T34 l0 x17_1).f0)) := (blk_cell BK114.out 0).trans rfl
                      have hcz28_1 : w22.cell? ⟨gb114, 1, none⟩ = some (.int .i64 ((rd_T34 l0 x17_1).f1)) := (blk_cell BK114.out 1).trans rfl
                      have hcz28_2 : w22.cell? ⟨gb114, 2, none⟩ = some (.int .i64 ((rd_T34 l0 x17_1).f2)) := (blk_cell BK114.out 2).trans rfl
                      have hcz28_3 : w22.cell? ⟨gb114, 3, none⟩ = some (.int .i64 ((rd_T34 l0 x17_1).f3)) := (blk_cell BK114.out 3).trans rfl
                      have hfz28_0 := blk_frozen BK114.out 0
                      have hfz28_1 := blk_frozen BK114.out 1
                      have hfz28_2 := blk_frozen BK114.out 2
                      have hfz28_3 := blk_frozen BK114.out 3
                      go_wp2_with (first | ((with_reducible refine gate_callee (f := 19) rfl ?_); refine goesL_ (some 37) rfl rfl Tryd.func19 (by kernel_rfl) rfl #[.int .u64 (IntKind.u64.wrap ((rd_T34 l0 x17_1).f2))] rfl (by (try simp only [List.map_toArray, List.map_cons, List.map_nil]); first | done | rfl | (simp only [List.length_drop, List.length_take]; rfl)) ?_; (with_reducible refine (varint_Put.calls (IntKind.u64.wrap ((rd_T34 l0 x17_1).f2)) t125 _ A26.out).mono ?_); rintro e w29 ⟨v126, rfl, ho0, hb⟩; refine ⟨_, rfl, ?_⟩; have n0_ := Aside0.mk (Kd.V_below (by (with_reducible repeat (first | apply Kd.V_alloc | apply Kd.V_drewN | apply Kd.V_drew)); exact HO_4.out) hb); have n1_ := Aside0.mk (Kd.V_below (by (with_reducible repeat (first | apply Kd.V_alloc | apply Kd.V_drewN | apply Kd.V_drew)); exact HO120.out) hb); have n2_ := Aside0.mk (Kd.R_below (by (with_reducible repeat (first | apply Kd.R_alloc | apply Kd.R_drewN | apply Kd.R_drew)); exact HO123.out) hb); have n3_ := Aside0.mk (Kd.V_lower (Kd.V_mono (ok' := fun k_ => (w.heap.size ≤ k_) ∧ some k_ ≠ (v122 : Value).ownBlock ∧ k_ ≠ gb114) ho0 (fun k_ hk_ => ⟨(Nat.le_trans (below_size (by repeat (first | (with_reducible first | exact HB.out | apply below_alloc | apply pw_below_drewN | apply below_drew1 | refine below_set ?_ GE114.out) | exact HB.out))) hk_), (Kd.fresh' (Kd.R_lt (by (with_reducible repeat (first | apply Kd.R_alloc | apply Kd.R_drewN | apply Kd.R_drew)); exact HO123.out)) k_ hk_), (Kd.freshB (g := gb114) (o := .cells #[.int .i64 ((rd_T34 l0 x17_1).f0), .int .i64 ((rd_T34 l0 x17_1).f1), .int .i64 ((rd_T34 l0 x17_1).f2), .int .i64 ((rd_T34 l0 x17_1).f3)] 34 (0, 0)) (by (with_reducible repeat (first | refine blk_drewN ?_ _ | refine blk_drew ?_ | refine blk_alloc ?_ _)); exact BK114.out) k_ hk_)⟩)) (below_size (by repeat (first | (with_reducible first | exact HB.out | apply below_alloc | apply pw_below_drewN | apply below_drew1 | refine below_set ?_ GE114.out) | exact HB.out)))); have n4_ := Aside0.mk (blk_below (g := gb114) (o := .cells #[.int .i64 ((rd_T34 l0 x17_1).f0), .int .i64 ((rd_T34 l0 x17_1).f1), .int .i64 ((rd_T34 l0 x17_1).f2), .int .i64 ((rd_T34 l0 x17_1).f3)] 34 (0, 0)) (by (with_reducible repeat (first | refine blk_drewN ?_ _ | refine blk_drew ?_ | refine blk_alloc ?_ _)); exact BK114.out) hb); have n5_ := Aside0.mk (below_step (by repeat (first | (with_reducible first | exact HB.out | apply below_alloc | apply pw_below_drewN | apply below_drew1 | refine below_set ?_ GE114.out) | exact HB.out)) hb); clear HO_4; clear HO120; clear HO123; clear BK114; clear HB; have HO_4 := n0_; have HO120 := n1_; have HO123 := n2_; have HO127 := n3_; have BK114 := n4_; have HB := n5_; clear n0_ n1_ n2_ n3_ n4_ n5_; (try clear hb); (try clear hb2); (try clear hk); (try clear hi); (try clear ho0); obtain ⟨Ao31, co31, eo31⟩ := Kd.V_slice HO127.out; subst eo31) | ((with_reducible refine gate_builtin (b := .append) (xs := #[.tmp 33, .tmp 37]) rfl ?_); at_builtin; refine Kd.R_append_rows (Kd.int .u8) (w0 := w) w.heap.size rfl (.tmp 33) (.tmp 37) 23 5 (.int .u8 0) 1 rfl Tryd.underlying23 info5 rfl (by decide) (by omega) v122 y121 t125 _ _ _ (fun k_ => (w.heap.size ≤ k_)) (fun _ => False) rfl rfl ?aO ?aR (fun _ _ h => h) (fun _ h => h.elim) ?aF ?aB ?aS ?aL ?_; (case aR => repeat (first | exact (Kd.V_reads' HO127.out).2.2 | (with_reducible refine Kd.C_alloc ?_ _) | (with_reducible refine Kd.C_drewN ?_ _) | (with_reducible refine Kd.C_drew ?_))); (case aB => exact (by repeat (first | (with_reducible first | exact HB.out | apply below_alloc | apply pw_below_drewN | apply below_drew1 | refine below_set ?_ GE114.out) | exact HB.out))); (case aF => exact (fun k_ hk => (Nat.le_trans (below_size (by repeat (first | (with_reducible first | exact HB.out | apply below_alloc | apply pw_below_drewN | apply below_drew1 | refine below_set ?_ GE114.out) | exact HB.out))) hk))); (case aO => exact (by (with_reducible repeat (first | apply Kd.R_alloc | apply Kd.R_drewN | apply Kd.R_drew)); exact HO123.out)); (case aS => exact (below_size (by repeat (first | (with_reducible first | exact HB.out | apply below_alloc | apply pw_below_drewN | apply below_drew1 | refine below_set ?_ GE114.out) | exact HB.out)))); (case aL => have := LMc27.out; omega); intro v129 w30 ho hb hg hat; rw [← Ny128.out] at ho; have n0_ := Aside0.mk (Kd.V_afterv (ok := (fun k_ => (w.heap.size ≤ k_) ∧ k_ ≠ gb114)) (by (with_reducible repeat (first | apply Kd.V_alloc | apply Kd.V_drewN | apply Kd.V_drew)); exact HO_4.out) hg hat); have n1_ := Aside0.mk (blk_grown (g := gb114) (o := .cells #[.int .i64 ((rd_T34 l0 x17_1).f0), .int .i64 ((rd_T34 l0 x17_1).f1), .int .i64 ((rd_T34 l0 x17_1).f2), .int .i64 ((rd_T34 l0 x17_1).f3)] 34 (0, 0)) (by (with_reducible repeat (first | refine blk_drewN ?_ _ | refine blk_drew ?_ | refine blk_alloc ?_ _)); exact BK114.out) hg (Kd.R_ne HO123.out BK114.out (by decide))); have n2_ := Aside0.mk (Kd.V_afterv (ok := (fun k_ => (w.heap.size ≤ k_) ∧ k_ ≠ gb114)) (by (with_reducible repeat (first | apply Kd.V_alloc | apply Kd.V_drewN | apply Kd.V_drew)); exact HO120.out) hg hat); have n3_ := Aside0.mk (Kd.V_afterv (ok := (fun k_ => (w.heap.size ≤ k_) ∧ k_ ≠ gb114)) (by (with_reducible repeat (first | apply Kd.V_alloc | apply Kd.V_drewN | apply Kd.V_drew)); exact Kd.V_mono HO127.out (fun _ hk => ⟨⟨hk.1, hk.2.2⟩, hk.2.1⟩)) hg hat); have n4_ := Aside0.mk (hb); have n5_ := Aside0.mk (ho); clear HO_4; clear BK114; clear HO120; clear HO127; clear HB; clear HO123; have HO_4 := n0_; have BK114 := n1_; have HO120 := n2_; have HO127 := n3_; have HB := n4_; have HO130 := n5_; clear n0_ n1_ n2_ n3_ n4_ n5_; clear ho hb hg hat))
                      go_meet
                      case rel => exact ⟨_, (y128), H', ⟨by have := HK1.out; first | omega | exact Nat.le_refl _⟩, ⟨by (with_reducible repeat (first | apply Kd.V_alloc | apply Kd.V_drewN | apply Kd.V_drew)); exact Kd.V_mono HO_4.out (fun _ hk => ⟨hk.1.1, ⟨hk.2, hk.1.2⟩⟩)⟩, ⟨by (with_reducible repeat (first | apply Kd.R_alloc | apply Kd.R_drewN | apply Kd.R_drew)); exact HO130.out⟩, ⟨by (with_reducible repeat (first | refine blk_drewN ?_ _ | refine blk_drew ?_ | refine blk_alloc ?_ _)); exact BK114.out⟩, ⟨by repeat (first | (with_reducible first | exact HB.out | apply below_alloc | apply pw_below_drewN | apply below_drew1 | refine below_set ?_ GE114.out) | exact HB.out)⟩⟩
                    · rw [if_neg c27] at H
                      exact absurd H (by simp)
                  · replace c25 := Bool.eq_false_iff.mpr c25
                    subst c25
                    have H1 : (binary_Print.j1 k1 x4_1 y121 l0 (l0.length : Int) x17_1 ((rd_T34 l0 x17_1).f0) ((rd_T34 l0 x17_1).f1) ((rd_T34 l0 x17_1).f2) ((rd_T34 l0 x17_1).f3)) = some (r1, r2) := by rw [if_neg (show ¬ (false = true) by decide)] at H; exact H
                    clear H
                    have H := H1
                    clear H1
                    have H' := Aside0.mk H
                    clear H
                    go_wp2
                    go_meet
                    case rel => exact ⟨_, (y121), H', ⟨by have := HK1.out; first | omega | exact Nat.le_refl _⟩, ⟨by (with_reducible repeat (first | apply Kd.V_alloc | apply Kd.V_drewN | apply Kd.V_drew)); exact Kd.V_mono HO_4.out (fun _ hk => ⟨hk.1.1, ⟨hk.2, hk.1.2⟩⟩)⟩, ⟨by (with_reducible repeat (first | apply Kd.R_alloc | apply Kd.R_drewN | apply Kd.R_drew)); exact HO123.out⟩, ⟨by (with_reducible repeat (first | refine blk_drewN ?_ _ | refine blk_drew ?_ | refine blk_alloc ?_ _)); exact BK114.out⟩, ⟨by repeat (first | (with_reducible first | exact HB.out | apply below_alloc | apply pw_below_drewN | apply below_drew1 | refine below_set ?_ GE114.out) | exact HB.out)⟩⟩
                case rest =>
                  clear HC13
                  try clear c1
                  try clear p1
                  try clear q1
                  try clear hx1
                  try clear c2
                  try clear p2
                  try clear c3
                  try clear c7
                  try clear c7b0
                  try clear c8
                  try clear c8b0
                  try clear c9
                  try clear c9b0
                  try clear c11
                  try clear p11
                  try clear q11
                  try clear hx11
                  try clear c12
                  try clear c19
                  try clear c25
                  try clear c27
                  try clear c31
                  try clear hcz15_0
                  try clear hcz15_1
                  try clear hcz15_2
                  try clear hcz15_3
                  try clear hcz24_0
                  try clear hcz24_1
                  try clear hcz24_2
                  try clear hcz24_3
                  try clear hcz28_0
                  try clear hcz28_1
                  try clear hcz28_2
                  try clear hcz28_3
                  try clear hfz15_0
                  try clear hfz15_1
                  try clear hfz15_2
                  try clear hfz15_3
                  try clear hfz24_0
                  try clear hfz24_1
                  try clear hfz24_2
                  try clear hfz24_3
                  try clear hfz28_0
                  try clear hfz28_1
                  try clear hfz28_2
                  try clear hfz28_3
                  try clear hx113_0
                  try clear hx113_1
                  try clear hx113_2
                  try clear hx113_3
                  try clear p113
                  try clear p2
                  try clear q113
                  obtain ⟨kq, x7_12, HA, HJ12, HO_4, HO_7, BK114, HB⟩ := hcut
                  cases kq with
                  | zero => exact absurd HA.out (by simp [binary_Print.j1])
                  | succ kj12 =>
                    have H := HA.out
                    clear HA
                    simp only [binary_Print.j1] at H
                    replace H := Option.bind_eq_some_iff.mp H
                    obtain ⟨t131, A320, H⟩ := H
                    replace H : (if t131 = true then ((varint_Zig.f ((rd_T34 l0 x17_1).f3)).bind fun t132 => ((varint_Put.f t132).bind fun t133 => (if x7_12.length + t133.length < 140737488355328 then ((some (x7_12 ++ t133 : List Int)).bind fun y136 => ((varint_Put.f (IntKind.u64.wrap ((y136.length : Int)))).bind fun t139 => ((slices_Concat_byte_byte.f (([x4_1, t139, y136] : List (List Int)))).bind fun t145 => (binary_Print.l0 kj12 t145 l0 (l0.length : Int) (wrap64 (x17_1 + 1)))))) else (none)))) else ((varint_Put.f (IntKind.u64.wrap ((x7_12.length : Int)))).bind fun t148 => ((slices_Concat_byte_byte.f (([x4_1, t148, x7_12] : List (List Int)))).bind fun t154 => (binary_Print.l0 kj12 t154 l0 (l0.length : Int) (wrap64 (x17_1 + 1)))))) = some (r1, r2) := H
                    have A32 := Aside0.mk A320
                    clear A320
                    by_cases c33 : t131 = true
                    · subst c33
                      have H1 : ((varint_Zig.f ((rd_T34 l0 x17_1).f3)).bind fun t132 => ((varint_Put.f t132).bind fun t133 => (if x7_12.length + t133.length < 140737488355328 then ((some (x7_12 ++ t133 : List Int)).bind fun y136 => ((varint_Put.f (IntKind.u64.wrap ((y136.length : Int)))).bind fun t139 => ((slices_Concat_byte_byte.f (([x4_1, t139, y136] : List (List Int)))).bind fun t145 => (binary_Print.l0 kj12 t145 l0 (l0.length : Int) (wrap64 (x17_1 + 1)))))) else (none)))) = some (r1, r2) := by rw [if_pos rfl] at H; exact H
                      clear H
                      have H := H1
                      clear H1
                      replace H := Option.bind_eq_some_iff.mp H
                      obtain ⟨t132, A340, H⟩ := H
                      replace H : ((varint_Put.f t132).bind fun t133 => (if x7_12.length + t133.length < 140737488355328 then ((some (x7_12 ++ t133 : List Int)).bind fun y136 => ((varint_Put.f (IntKind.u64.wrap ((y136.length : Int)))).bind fun t139 => ((slices_Concat_byte_byte.f (([x4_1, t139, y136] : List (List Int)))).bind fun t145 => (binary_Print.l0 kj12 t145 l0 (l0.length : Int) (wrap64 (x17_1 + 1)))))) else (none))) = some (r1, r2) := H
                      have A34 := Aside0.mk A340
                      clear A340
                      replace H := Option.bind_eq_some_iff.mp H
                      obtain ⟨t133, A350, H⟩ := H
                      replace H : (if x7_12.length + t133.length < 140737488355328 then ((some (x7_12 ++ t133 : List Int)).bind fun y136 => ((varint_Put.f (IntKind.u64.wrap ((y136.length : Int)))).bind fun t139 => ((slices_Concat_byte_byte.f (([x4_1, t139, y136] : List (List Int)))).bind fun t145 => (binary_Print.l0 kj12 t145 l0 (l0.length : Int) (wrap64 (x17_1 + 1)))))) else (none)) = some (r1, r2) := H
                      have A35 := Aside0.mk A350
                      clear A350
                      by_cases c36 : x7_12.length + t133.length < 140737488355328
                      · rw [if_pos c36] at H
                        have LMc36 := Aside0.mk c36
                        clear c36
                        obtain ⟨y136, hy136⟩ : ∃ y_ : List Int, y_ = (x7_12 ++ t133) := ⟨_, rfl⟩
                        replace H : ((varint_Put.f (IntKind.u64.wrap ((y136.length : Int)))).bind fun t139 => ((slices_Concat_byte_byte.f (([x4_1, t139, y136] : List (List Int)))).bind fun t145 => (binary_Print.l0 kj12 t145 l0 (l0.length : Int) (wrap64 (x17_1 + 1))))) = some (r1, r2) := by first | (rw [hy136]; with_reducible exact H) | (have H2_ := (Option.bind_some _ _).symm.trans H; rw [hy136]; with_reducible exact H2_) | (have H2_ := (Option.bind_some _ _).symm.trans H; with_reducible exact H2_) | with_reducible exact H | (rw [hy136]; exact H) | exact H
                        have Ny136 := Aside0.mk hy136
                        clear hy136
                        replace H := Option.bind_eq_some_iff.mp H
                        obtain ⟨t139, A370, H⟩ := H
                        replace H : ((slices_Concat_byte_byte.f (([x4_1, t139, y136] : List (List Int)))).bind fun t145 => (binary_Print.l0 kj12 t145 l0 (l0.length : Int) (wrap64 (x17_1 + 1)))) = some (r1, r2) := H
                        have A37 := Aside0.mk A370
                        clear A370
                        obtain ⟨y142, hy142⟩ : ∃ y_ : List (List Int), y_ = (([x4_1, t139, y136] : List (List Int))) := ⟨_, rfl⟩
                        replace H : ((slices_Concat_byte_byte.f y142).bind fun t145 => (binary_Print.l0 kj12 t145 l0 (l0.length : Int) (wrap64 (x17_1 + 1)))) = some (r1, r2) := by first | (rw [hy142]; with_reducible exact H) | (have H2_ := (Option.bind_some _ _).symm.trans H; rw [hy142]; with_reducible exact H2_) | (have H2_ := (Option.bind_some _ _).symm.trans H; with_reducible exact H2_) | with_reducible exact H | (rw [hy142]; exact H) | exact H
                        have Ny142 := Aside0.mk hy142
                        clear hy142
                        replace H := Option.bind_eq_some_iff.mp H
                        obtain ⟨t145, A380, H⟩ := H
                        replace H : (binary_Print.l0 kj12 t145 l0 (l0.length : Int) (wrap64 (x17_1 + 1))) = some (r1, r2) := H
                        have A38 := Aside0.mk A380
                        clear A380
                        have H' := Aside0.mk H
                        clear H
                        have hcz39_0 : wc.cell? ⟨gb114, 0, none⟩ = some (.int .i64 ((rd_T34 l0 x17_1).f0)) := (blk_cell BK114.out 0).trans rfl
                        have hcz39_1 : wc.cell? ⟨gb114, 1, none⟩ = some (.int .i64 ((rd_T34 l0 x17_1).f1)) := (blk_cell BK114.out 1).trans rfl
                        have hcz39_2 : wc.cell? ⟨gb114, 2, none⟩ = some (.int .i64 ((rd_T34 l0 x17_1).f2)) := (blk_cell BK114.out 2).trans rfl
                        have hcz39_3 : wc.cell? ⟨gb114, 3, none⟩ = some (.int .i64 ((rd_T34 l0 x17_1).f3)) := (blk_cell BK114.out 3).trans rfl
                        have hfz39_0 := blk_frozen BK114.out 0
                        have hfz39_1 := blk_frozen BK114.out 1
                        have hfz39_2 := blk_frozen BK114.out 2
                        have hfz39_3 := blk_frozen BK114.out 3
                        go_wp2_with (first | ((with_reducible refine gate_callee (f := 40) rfl ?_); refine goesL_ (some 41) rfl rfl Tryd.func40 (by kernel_rfl) rfl #[.int .i64 ((rd_T34 l0 x17_1).f0)] rfl (by (try simp only [List.map_toArray, List.map_cons, List.map_nil]); first | done | rfl | (simp only [List.length_drop, List.length_take]; rfl)) ?_; (with_reducible refine (binary_value.calls ((rd_T34 l0 x17_1).f0) true _ A32.out).mono ?_); rintro e w' ⟨rfl, ⟨nd, rfl⟩⟩; refine ⟨_, rfl, ?_⟩) | ((with_reducible refine gate_callee (f := 41) rfl ?_); refine goesL_ (some 45) rfl rfl Tryd.func41 (by kernel_rfl) rfl #[.int .i64 ((rd_T34 l0 x17_1).f3)] rfl (by (try simp only [List.map_toArray, List.map_cons, List.map_nil]); first | done | rfl | (simp only [List.length_drop, List.length_take]; rfl)) ?_; (with_reducible refine (varint_Zig.calls ((rd_T34 l0 x17_1).f3) t132 _ A34.out).mono ?_); rintro e w' ⟨rfl, ⟨nd, rfl⟩⟩; refine ⟨_, rfl, ?_⟩) | ((with_reducible refine gate_callee (f := 19) rfl ?_); refine goesL_ (some 46) rfl rfl Tryd.func19 (by kernel_rfl) rfl #[.int .u64 t132] rfl (by (try simp only [List.map_toArray, List.map_cons, List.map_nil]); first | done | rfl | (simp only [List.length_drop, List.length_take]; rfl)) ?_; (with_reducible refine (varint_Put.calls t132 t133 _ A35.out).mono ?_); rintro e w40 ⟨v134, rfl, ho0, hb⟩; refine ⟨_, rfl, ?_⟩; have n0_ := Aside0.mk (Kd.V_below (by (with_reducible repeat (first | apply Kd.V_alloc | apply Kd.V_drewN | apply Kd.V_drew)); exact HO_4.out) hb); have n1_ := Aside0.mk (Kd.R_below (by (with_reducible repeat (first | apply Kd.R_alloc | apply Kd.R_drewN | apply Kd.R_drew)); exact HO_7.out) hb); have n2_ := Aside0.mk (Kd.V_lower (Kd.V_mono (ok' := fun k_ => (w.heap.size ≤ k_) ∧ some k_ ≠ (u7 : Value).ownBlock ∧ k_ ≠ gb114) ho0 (fun k_ hk_ => ⟨(Nat.le_trans (below_size (by repeat (first | (with_reducible first | exact HB.out | apply below_alloc | apply pw_below_drewN | apply below_drew1 | refine below_set ?_ GE114.out) | exact HB.out))) hk_), (Kd.fresh' (Kd.R_lt (by (with_reducible repeat (first | apply Kd.R_alloc | apply Kd.R_drewN | apply Kd.R_drew)); exact HO_7.out)) k_ hk_), (Kd.freshB (g := gb114) (o := .cells #[.int .i64 ((rd_T34 l0 x17_1).f0), .int .i64 ((rd_T34 l0 x17_1).f1), .int .i64 ((rd_T34 l0 x17_1).f2), .int .i64 ((rd_T34 l0 x17_1).f3)] 34 (0, 0)) (by (with_reducible repeat (first | refine blk_drewN ?_ _ | refine blk_drew ?_ | refine blk_alloc ?_ _)); exact BK114.out) k_ hk_)⟩)) (below_size (by repeat (first | (with_reducible first | exact HB.out | apply below_alloc | apply pw_below_drewN | apply below_drew1 | refine below_set ?_ GE114.out) | exact HB.out)))); have n3_ := Aside0.mk (blk_below (g := gb114) (o := .cells #[.int .i64 ((rd_T34 l0 x17_1).f0), .int .i64 ((rd_T34 l0 x17_1).f1), .int .i64 ((rd_T34 l0 x17_1).f2), .int .i64 ((rd_T34 l0 x17_1).f3)] 34 (0, 0)) (by (with_reducible repeat (first | refine blk_drewN ?_ _ | refine blk_drew ?_ | refine blk_alloc ?_ _)); exact BK114.out) hb); have n4_ := Aside0.mk (below_step (by repeat (first | (with_reducible first | exact HB.out | apply below_alloc | apply pw_below_drewN | apply below_drew1 | refine below_set ?_ GE114.out) | exact HB.out)) hb); clear HO_4; clear HO_7; clear BK114; clear HB; have HO_4 := n0_; have HO_7 := n1_; have HO135 := n2_; have BK114 := n3_; have HB := n4_; clear n0_ n1_ n2_ n3_ n4_; (try clear hb); (try clear hb2); (try clear hk); (try clear hi); (try clear ho0); obtain ⟨Ao42, co42, eo42⟩ := Kd.V_slice HO135.out; subst eo42) | ((with_reducible refine gate_builtin (b := .append) (xs := #[.tmp 42, .tmp 46]) rfl ?_); at_builtin; refine Kd.R_append_rows (Kd.int .u8) (w0 := w) w.heap.size rfl (.tmp 42) (.tmp 46) 23 5 (.int .u8 0) 1 rfl Tryd.underlying23 info5 rfl (by decide) (by omega) u7 x7_12 t133 _ _ _ (fun k_ => (w.heap.size ≤ k_)) (fun _ => False) rfl rfl ?aO ?aR (fun _ _ h => h) (fun _ h => h.elim) ?aF ?aB ?aS ?aL ?_; (case aR => repeat (first | exact (Kd.V_reads' HO135.out).2.2 | (with_reducible refine Kd.C_alloc ?_ _) | (with_reducible refine Kd.C_drewN ?_ _) | (with_reducible refine Kd.C_drew ?_))); (case aB => exact (by repeat (first | (with_reducible first | exact HB.out | apply below_alloc | apply pw_below_drewN | apply below_drew1 | refine below_set ?_ GE114.out) | exact HB.out))); (case aF => exact (fun k_ hk => (Nat.le_trans (below_size (by repeat (first | (with_reducible first | exact HB.out | apply below_alloc | apply pw_below_drewN | apply below_drew1 | refine below_set ?_ GE114.out) | exact HB.out))) hk))); (case aO => exact (by (with_reducible repeat (first | apply Kd.R_alloc | apply Kd.R_drewN | apply Kd.R_drew)); exact HO_7.out)); (case aS => exact (below_size (by repeat (first | (with_reducible first | exact HB.out | apply below_alloc | apply pw_below_drewN | apply below_drew1 | refine below_set ?_ GE114.out) | exact HB.out)))); (case aL => have := LMc36.out; omega); intro v137 w41 ho hb hg hat; rw [← Ny136.out] at ho; have n0_ := Aside0.mk (Kd.V_afterv (ok := (fun k_ => (w.heap.size ≤ k_) ∧ k_ ≠ gb114)) (by (with_reducible repeat (first | apply Kd.V_alloc | apply Kd.V_drewN | apply Kd.V_drew)); exact Kd.V_mono HO_4.out (fun _ hk => ⟨⟨hk.1, hk.2.2⟩, hk.2.1⟩)) hg hat); have n1_ := Aside0.mk (blk_grown (g := gb114) (o := .cells #[.int .i64 ((rd_T34 l0 x17_1).f0), .int .i64 ((rd_T34 l0 x17_1).f1), .int .i64 ((rd_T34 l0 x17_1).f2), .int .i64 ((rd_T34 l0 x17_1).f3)] 34 (0, 0)) (by (with_reducible repeat (first | refine blk_drewN ?_ _ | refine blk_drew ?_ | refine blk_alloc ?_ _)); exact BK114.out) hg (Kd.R_ne HO_7.out BK114.out (by decide))); have n2_ := Aside0.mk (Kd.V_afterv (ok := (fun k_ => (w.heap.size ≤ k_) ∧ k_ ≠ gb114)) (by (with_reducible repeat (first | apply Kd.V_alloc | apply Kd.V_drewN | apply Kd.V_drew)); exact Kd.V_mono HO135.out (fun _ hk => ⟨⟨hk.1, hk.2.2⟩, hk.2.1⟩)) hg hat); have n3_ := Aside0.mk (hb); have n4_ := Aside0.mk (ho); clear HO_4; clear BK114; clear HO135; clear HB; clear HO_7; have HO_4 := n0_; have BK114 := n1_; have HO135 := n2_; have HB := n3_; have HO138 := n4_; clear n0_ n1_ n2_ n3_ n4_; clear ho hb hg hat; obtain ⟨Ao43, co43, eo43⟩ := Kd.R_slice HO138.out; subst eo43) | ((with_reducible refine gate_callee (f := 19) rfl ?_); refine goesL_ (some 52) rfl rfl Tryd.func19 (by kernel_rfl) rfl #[.int .u64 (IntKind.u64.wrap ((y136.length : Int)))] rfl (by (try simp only [List.map_toArray, List.map_cons, List.map_nil]); first | done | rfl | (simp only [List.length_drop, List.length_take]; rfl)) ?_; (with_reducible refine (varint_Put.calls (IntKind.u64.wrap ((y136.length : Int))) t139 _ A37.out).mono ?_); rintro e w44 ⟨v140, rfl, ho0, hb⟩; refine ⟨_, rfl, ?_⟩; have n0_ := Aside0.mk (Kd.V_below (by (with_reducible repeat (first | apply Kd.V_alloc | apply Kd.V_drewN | apply Kd.V_drew)); exact HO_4.out) hb); have n1_ := Aside0.mk (Kd.V_below (by (with_reducible repeat (first | apply Kd.V_alloc | apply Kd.V_drewN | apply Kd.V_drew)); exact HO135.out) hb); have n2_ := Aside0.mk (Kd.R_below (by (with_reducible repeat (first | apply Kd.R_alloc | apply Kd.R_drewN | apply Kd.R_drew)); exact HO138.out) hb); have n3_ := Aside0.mk (Kd.V_lower (Kd.V_mono (ok' := fun k_ => (w.heap.size ≤ k_) ∧ some k_ ≠ (.slice Ao43 y136.length co43 : Value).ownBlock ∧ k_ ≠ gb114) ho0 (fun k_ hk_ => ⟨(Nat.le_trans (below_size (by repeat (first | (with_reducible first | exact HB.out | apply below_alloc | apply pw_below_drewN | apply below_drew1 | refine below_set ?_ GE114.out) | exact HB.out))) hk_), (Kd.fresh' (Kd.R_lt (by (with_reducible repeat (first | apply Kd.R_alloc | apply Kd.R_drewN | apply Kd.R_drew)); exact HO138.out)) k_ hk_), (Kd.freshB (g := gb114) (o := .cells #[.int .i64 ((rd_T34 l0 x17_1).f0), .int .i64 ((rd_T34 l0 x17_1).f1), .int .i64 ((rd_T34 l0 x17_1).f2), .int .i64 ((rd_T34 l0 x17_1).f3)] 34 (0, 0)) (by (with_reducible repeat (first | refine blk_drewN ?_ _ | refine blk_drew ?_ | refine blk_alloc ?_ _)); exact BK114.out) k_ hk_)⟩)) (below_size (by repeat (first | (with_reducible first | exact HB.out | apply below_alloc | apply pw_below_drewN | apply below_drew1 | refine below_set ?_ GE114.out) | exact HB.out)))); have n4_ := Aside0.mk (blk_below (g := gb114) (o := .cells #[.int .i64 ((rd_T34 l0 x17_1).f0), .int .i64 ((rd_T34 l0 x17_1).f1), .int .i64 ((rd_T34 l0 x17_1).f2), .int .i64 ((rd_T34 l0 x17_1).f3)] 34 (0, 0)) (by (with_reducible repeat (first | refine blk_drewN ?_ _ | refine blk_drew ?_ | refine blk_alloc ?_ _)); exact BK114.out) hb); have n5_ := Aside0.mk (below_step (by repeat (first | (with_reducible first | exact HB.out | apply below_alloc | apply pw_below_drewN | apply below_drew1 | refine below_set ?_ GE114.out) | exact HB.out)) hb); clear HO_4; clear HO135; clear HO138; clear BK114; clear HB; have HO_4 := n0_; have HO135 := n1_; have HO138 := n2_; have HO141 := n3_; have BK114 := n4_; have HB := n5_; clear n0_ n1_ n2_ n3_ n4_ n5_; (try clear hb); (try clear hb2); (try clear hk); (try clear hi); (try clear ho0); obtain ⟨Ao45, co45, eo45⟩ := Kd.V_slice HO_4.out; subst eo45; obtain ⟨Ao46, co46, eo46⟩ := Kd.V_slice HO141.out; subst eo46) | ((with_reducible refine gate_dst (N := 54) rfl ?_); refine Kd.N_lit (Kd.slice 5 (Kd.int .u8)) _ 23 ?hg (N' := 54) ?hd (xs := ([x4_1, t139, y136] : List (List Int))) (inner := [.slice Ao45 x4_1.length co45, .slice Ao46 t139.length co46, .slice Ao43 y136.length co43]) (ok := (fun k_ => (w.heap.size ≤ k_) ∧ k_ ≠ gb114)) (okp := (fun k_ => (w.heap.size ≤ k_) ∧ k_ ≠ gb114)) ?hr ?hp (fun _ hk => hk) ((show ∀ k_, w44.heap.size ≤ k_ → (fun k_ => (w.heap.size ≤ k_) ∧ k_ ≠ gb114) k_ from fun k_ hk => ⟨(Nat.le_trans (below_size (by repeat (first | (with_reducible first | exact HB.out | apply below_alloc | apply pw_below_drewN | apply below_drew1 | refine below_set ?_ GE114.out) | exact HB.out))) hk), Kd.freshB (g := gb114) (o := .cells #[.int .i64 ((rd_T34 l0 x17_1).f0), .int .i64 ((rd_T34 l0 x17_1).f1), .int .i64 ((rd_T34 l0 x17_1).f2), .int .i64 ((rd_T34 l0 x17_1).f3)] 34 (0, 0)) (by (with_reducible repeat (first | refine blk_drewN ?_ _ | refine blk_drew ?_ | refine blk_alloc ?_ _)); exact BK114.out) k_ hk⟩) _ (Nat.le_refl _)) (Below.refl _ _) (Nat.le_refl _) (by simp) ?_; (case hd => rfl); (case hg => rfl); (case hr => first | (go_simp; done) | (go_simp; rfl)); (case hp => exact (Reps.one (show Kd.FK (Kd.slice 5 (Kd.int .u8)) _ _ x4_1 [.slice Ao45 x4_1.length co45] from (Kd.FK_slice_mk (Kd.V_reads' (Kd.V_mono (ok' := (fun k_ => (w.heap.size ≤ k_) ∧ k_ ≠ gb114)) (HO_4.out) (fun k_ hk => ⟨hk.1.1, hk.1.2⟩))).2.1 (Kd.V_F (Kd.V_mono (ok' := (fun k_ => (w.heap.size ≤ k_) ∧ k_ ≠ gb114)) (HO_4.out) (fun k_ hk => ⟨hk.1.1, hk.1.2⟩))))) (Reps.one (show Kd.FK (Kd.slice 5 (Kd.int .u8)) _ _ t139 [.slice Ao46 t139.length co46] from (Kd.FK_slice_mk (Kd.V_reads' (Kd.V_mono (ok' := (fun k_ => (w.heap.size ≤ k_) ∧ k_ ≠ gb114)) (HO141.out) (fun k_ hk => ⟨hk.1, hk.2.2⟩))).2.1 (Kd.V_F (Kd.V_mono (ok' := (fun k_ => (w.heap.size ≤ k_) ∧ k_ ≠ gb114)) (HO141.out) (fun k_ hk => ⟨hk.1, hk.2.2⟩))))) (Reps.one (show Kd.FK (Kd.slice 5 (Kd.int .u8)) _ _ y136 [.slice Ao43 y136.length co43] from (Kd.FK_slice_mk (Kd.R_reads' (Kd.R_mono (ok' := (fun k_ => (w.heap.size ≤ k_) ∧ k_ ≠ gb114)) (Kd.R_types (HO138.out) BK114.out (by decide)) (fun k_ hk => ⟨hk.1, hk.2⟩))).2.1 (Kd.R_F (Kd.R_mono (ok' := (fun k_ => (w.heap.size ≤ k_) ∧ k_ ≠ gb114)) (Kd.R_types (HO138.out) BK114.out (by decide)) (fun k_ hk => ⟨hk.1, hk.2⟩))))) (Reps.none _ _))))); intro v143 w47 ho48 hb hg_ hnew_; clear hg_ hnew_; (first | rw [← Ny142.out] at ho48 | (simp only [Int.reduceToNat] at ho48; rw [← Ny142.out] at ho48)); have n0_ := Aside0.mk (Kd.V_elder' (by (with_reducible repeat (first | apply Kd.V_alloc | apply Kd.V_drewN | apply Kd.V_drew)); exact HO_4.out) (Kd.N_base ho48) hb); have n1_ := Aside0.mk (Kd.V_elder' (by (with_reducible repeat (first | apply Kd.V_alloc | apply Kd.V_drewN | apply Kd.V_drew)); exact HO135.out) (Kd.N_base ho48) hb); have n2_ := Aside0.mk (Kd.V_elder' (by (with_reducible repeat (first | apply Kd.V_alloc | apply Kd.V_drewN | apply Kd.V_drew)); exact HO141.out) (Kd.N_base ho48) hb); have n3_ := Aside0.mk (Kd.N_lower ho48 (below_size (by repeat (first | (with_reducible first | exact HB.out | apply below_alloc | apply pw_below_drewN | apply below_drew1 | refine below_set ?_ GE114.out) | exact HB.out)))); have n4_ := Aside0.mk (blk_below (g := gb114) (o := .cells #[.int .i64 ((rd_T34 l0 x17_1).f0), .int .i64 ((rd_T34 l0 x17_1).f1), .int .i64 ((rd_T34 l0 x17_1).f2), .int .i64 ((rd_T34 l0 x17_1).f3)] 34 (0, 0)) (by (with_reducible repeat (first | refine blk_drewN ?_ _ | refine blk_drew ?_ | refine blk_alloc ?_ _)); exact BK114.out) hb); have n5_ := Aside0.mk (below_step (by repeat (first | (with_reducible first | exact HB.out | apply below_alloc | apply pw_below_drewN | apply below_drew1 | refine below_set ?_ GE114.out) | exact HB.out)) hb); clear HO_4; clear HO135; clear HO141; clear BK114; clear HB; clear HO138; have HO_4 := n0_; have HO135 := n1_; have HO141 := n2_; have HO144 := n3_; have BK114 := n4_; have HB := n5_; clear n0_ n1_ n2_ n3_ n4_ n5_; clear hb ho48; obtain ⟨Ao49, co49, eo49⟩ := Kd.N_slice HO144.out; subst eo49) | ((with_reducible refine gate_callee (f := 42) rfl ?_); refine goesL_ (some 55) rfl rfl Tryd.func42 (by kernel_rfl) rfl #[.slice Ao49 y142.length co49] rfl (by (try simp only [List.map_toArray, List.map_cons, List.map_nil]); first | done | rfl | (simp only [List.length_drop, List.length_take]; rfl)) ?_; (with_reducible refine (slices_Concat_byte_byte.calls _ _ y142 t145 _ ?side1 ?side2 A38.out).mono ?_); (case side1 => repeat (first | exact (Kd.N_reads' HO144.out).2.2 | (with_reducible refine Kd.C_alloc ?_ _) | (with_reducible refine Kd.C_drewN ?_ _) | (with_reducible refine Kd.C_drew ?_))); (case side2 => exact (Kd.N_reads' HO144.out).2.1); rintro e w50 ⟨v146, rfl, ho0, hb⟩; refine ⟨_, rfl, ?_⟩; have n0_ := Aside0.mk (Kd.V_elder' (by (with_reducible repeat (first | apply Kd.V_alloc | apply Kd.V_drewN | apply Kd.V_drew)); exact HO_4.out) (Kd.R_base ho0) hb); have n1_ := Aside0.mk (Kd.V_elder' (by (with_reducible repeat (first | apply Kd.V_alloc | apply Kd.V_drewN | apply Kd.V_drew)); exact HO135.out) (Kd.R_base ho0) hb); have n2_ := Aside0.mk (Kd.V_elder' (by (with_reducible repeat (first | apply Kd.V_alloc | apply Kd.V_drewN | apply Kd.V_drew)); exact HO141.out) (Kd.R_base ho0) hb); have n3_ := Aside0.mk (Kd.N_elder' (by (with_reducible repeat (first | apply Kd.N_alloc | apply Kd.N_drewN | apply Kd.N_drew)); exact HO144.out) (Kd.R_base ho0) hb); have n4_ := Aside0.mk (Kd.R_lower (Kd.R_newM (M := fun k_ => (w.heap.size ≤ k_)) ho0 (below_size (by repeat (first | (with_reducible first | exact HB.out | apply below_alloc | apply pw_below_drewN | apply below_drew1 | refine below_set ?_ GE114.out) | exact HB.out))) (fun k_ h_ => h_)) (below_size (by repeat (first | (with_reducible first | exact HB.out | apply below_alloc | apply pw_below_drewN | apply below_drew1 | refine below_set ?_ GE114.out) | exact HB.out)))); have n5_ := Aside0.mk (blk_below (g := gb114) (o := .cells #[.int .i64 ((rd_T34 l0 x17_1).f0), .int .i64 ((rd_T34 l0 x17_1).f1), .int .i64 ((rd_T34 l0 x17_1).f2), .int .i64 ((rd_T34 l0 x17_1).f3)] 34 (0, 0)) (by (with_reducible repeat (first | refine blk_drewN ?_ _ | refine blk_drew ?_ | refine blk_alloc ?_ _)); exact BK114.out) hb); have n6_ := Aside0.mk (below_step (by repeat (first | (with_reducible first | exact HB.out | apply below_alloc | apply pw_below_drewN | apply below_drew1 | refine below_set ?_ GE114.out) | exact HB.out)) hb); clear HO_4; clear HO135; clear HO141; clear HO144; clear BK114; clear HB; have HO_4 := n0_; have HO135 := n1_; have HO141 := n2_; have HO144 := n3_; have HO147 := n4_; have BK114 := n5_; have HB := n6_; clear n0_ n1_ n2_ n3_ n4_ n5_ n6_; (try clear hb); (try clear hb2); (try clear hk); (try clear hi); (try clear ho0)))
                        go_roundg kj12
                        case measure => have := HK1.out; have := HJ12.out; omega
                        case rel => exact ⟨(t145), (wrap64 (x17_1 + 1)), (by first | rfl | (simp; done) | (simp [*]; done)), H', ⟨by have := HK1.out; have := HJ12.out; omega⟩, ⟨Kd.R_V (by (with_reducible repeat (first | apply Kd.R_alloc | apply Kd.R_drewN | apply Kd.R_drew)); exact Kd.R_mono HO147.out (fun _ hk => hk.1))⟩, ⟨by repeat (first | (with_reducible first | exact HB.out | apply below_alloc | apply pw_below_drewN | apply below_drew1 | refine below_set ?_ GE114.out) | exact HB.out)⟩⟩
                      · rw [if_neg c36] at H
                        exact absurd H (by simp)
                    · replace c33 := Bool.eq_false_iff.mpr c33
                      subst c33
                      have H1 : ((varint_Put.f (IntKind.u64.wrap ((x7_12.length : Int)))).bind fun t148 => ((slices_Concat_byte_byte.f (([x4_1, t148, x7_12] : List (List Int)))).bind fun t154 => (binary_Print.l0 kj12 t154 l0 (l0.length : Int) (wrap64 (x17_1 + 1))))) = some (r1, r2) := by rw [if_neg (show ¬ (false = true) by decide)] at H; exact H
                      clear H
                      have H := H1
                      clear H1
                      replace H := Option.bind_eq_some_iff.mp H
                      obtain ⟨t148, A510, H⟩ := H
                      replace H : ((slices_Concat_byte_byte.f (([x4_1, t148, x7_12] : List (List Int)))).bind fun t154 => (binary_Print.l0 kj12 t154 l0 (l0.length : Int) (wrap64 (x17_1 + 1)))) = some (r1, r2) := H
                      have A51 := Aside0.mk A510
                      clear A510
                      obtain ⟨y151, hy151⟩ : ∃ y_ : List (List Int), y_ = (([x4_1, t148, x7_12] : List (List Int))) := ⟨_, rfl⟩
                      replace H : ((slices_Concat_byte_byte.f y151).bind fun t154 => (binary_Print.l0 kj12 t154 l0 (l0.length : Int) (wrap64 (x17_1 + 1)))) = some (r1, r2) := by first | (rw [hy151]; with_reducible exact H) | (have H2_ := (Option.bind_some _ _).symm.trans H; rw [hy151]; with_reducible exact H2_) | (have H2_ := (Option.bind_some _ _).symm.trans H; with_reducible exact H2_) | with_reducible exact H | (rw [hy151]; exact H) | exact H
                      have Ny151 := Aside0.mk hy151
                      clear hy151
                      replace H := Option.bind_eq_some_iff.mp H
                      obtain ⟨t154, A520, H⟩ := H
                      replace H : (binary_Print.l0 kj12 t154 l0 (l0.length : Int) (wrap64 (x17_1 + 1))) = some (r1, r2) := H
                      have A52 := Aside0.mk A520
                      clear A520
                      have H' := Aside0.mk H
                      clear H
                      have hcz53_0 : wc.cell? ⟨gb114, 0, none⟩ = some (.int .i64 ((rd_T34 l0 x17_1).f0)) := (blk_cell BK114.out 0).trans rfl
                      have hcz53_1 : wc.cell? ⟨gb114, 1, none⟩ = some (.int .i64 ((rd_T34 l0 x17_1).f1)) := (blk_cell BK114.out 1).trans rfl
                      have hcz53_2 : wc.cell? ⟨gb114, 2, none⟩ = some (.int .i64 ((rd_T34 l0 x17_1).f2)) := (blk_cell BK114.out 2).trans rfl
                      have hcz53_3 : wc.cell? ⟨gb114, 3, none⟩ = some (.int .i64 ((rd_T34 l0 x17_1).f3)) := (blk_cell BK114.out 3).trans rfl
                      have hfz53_0 := blk_frozen BK114.out 0
                      have hfz53_1 := blk_frozen BK114.out 1
                      have hfz53_2 := blk_frozen BK114.out 2
                      have hfz53_3 := blk_frozen BK114.out 3
                      go_wp2_with (first | ((with_reducible refine gate_callee (f := 40) rfl ?_); refine goesL_ (some 41) rfl rfl Tryd.func40 (by kernel_rfl) rfl #[.int .i64 ((rd_T34 l0 x17_1).f0)] rfl (by (try simp only [List.map_toArray, List.map_cons, List.map_nil]); first | done | rfl | (simp only [List.length_drop, List.length_take]; rfl)) ?_; (with_reducible refine (binary_value.calls ((rd_T34 l0 x17_1).f0) false _ A32.out).mono ?_); rintro e w' ⟨rfl, ⟨nd, rfl⟩⟩; refine ⟨_, rfl, ?_⟩; obtain ⟨Ao54, co54, eo54⟩ := Kd.R_slice HO_7.out; subst eo54) | ((with_reducible refine gate_callee (f := 19) rfl ?_); refine goesL_ (some 52) rfl rfl Tryd.func19 (by kernel_rfl) rfl #[.int .u64 (IntKind.u64.wrap ((x7_12.length : Int)))] rfl (by (try simp only [List.map_toArray, List.map_cons, List.map_nil]); first | done | rfl | (simp only [List.length_drop, List.length_take]; rfl)) ?_; (with_reducible refine (varint_Put.calls (IntKind.u64.wrap ((x7_12.length : Int))) t148 _ A51.out).mono ?_); rintro e w55 ⟨v149, rfl, ho0, hb⟩; refine ⟨_, rfl, ?_⟩; have n0_ := Aside0.mk (Kd.V_below (by (with_reducible repeat (first | apply Kd.V_alloc | apply Kd.V_drewN | apply Kd.V_drew)); exact HO_4.out) hb); have n1_ := Aside0.mk (Kd.R_below (by (with_reducible repeat (first | apply Kd.R_alloc | apply Kd.R_drewN | apply Kd.R_drew)); exact HO_7.out) hb); have n2_ := Aside0.mk (Kd.V_lower (Kd.V_mono (ok' := fun k_ => (w.heap.size ≤ k_) ∧ some k_ ≠ (.slice Ao54 x7_12.length co54 : Value).ownBlock ∧ k_ ≠ gb114) ho0 (fun k_ hk_ => ⟨(Nat.le_trans (below_size (by repeat (first | (with_reducible first | exact HB.out | apply below_alloc | apply pw_below_drewN | apply below_drew1 | refine below_set ?_ GE114.out) | exact HB.out))) hk_), (Kd.fresh' (Kd.R_lt (by (with_reducible repeat (first | apply Kd.R_alloc | apply Kd.R_drewN | apply Kd.R_drew)); exact HO_7.out)) k_ hk_), (Kd.freshB (g := gb114) (o := .cells #[.int .i64 ((rd_T34 l0 x17_1).f0), .int .i64 ((rd_T34 l0 x17_1).f1), .int .i64 ((rd_T34 l0 x17_1).f2), .int .i64 ((rd_T34 l0 x17_1).f3)] 34 (0, 0)) (by (with_reducible repeat (first | refine blk_drewN ?_ _ | refine blk_drew ?_ | refine blk_alloc ?_ _)); exact BK114.out) k_ hk_)⟩)) (below_size (by repeat (first | (with_reducible first | exact HB.out | apply below_alloc | apply pw_below_drewN | apply below_drew1 | refine below_set ?_ GE114.out) | exact HB.out)))); have n3_ := Aside0.mk (blk_below (g := gb114) (o := .cells #[.int .i64 ((rd_T34 l0 x17_1).f0), .int .i64 ((rd_T34 l0 x17_1).f1), .int .i64 ((rd_T34 l0 x17_1).f2), .int .i64 ((rd_T34 l0 x17_1).f3)] 34 (0, 0)) (by (with_reducible repeat (first | refine blk_drewN ?_ _ | refine blk_drew ?_ | refine blk_alloc ?_ _)); exact BK114.out) hb); have n4_ := Aside0.mk (below_step (by repeat (first | (with_reducible first | exact HB.out | apply below_alloc | apply pw_below_drewN | apply below_drew1 | refine below_set ?_ GE114.out) | exact HB.out)) hb); clear HO_4; clear HO_7; clear BK114; clear HB; have HO_4 := n0_; have HO_7 := n1_; have HO150 := n2_; have BK114 := n3_; have HB := n4_; clear n0_ n1_ n2_ n3_ n4_; (try clear hb); (try clear hb2); (try clear hk); (try clear hi); (try clear ho0); obtain ⟨Ao56, co56, eo56⟩ := Kd.V_slice HO_4.out; subst eo56; obtain ⟨Ao57, co57, eo57⟩ := Kd.V_slice HO150.out; subst eo57) | ((with_reducible refine gate_dst (N := 54) rfl ?_); refine Kd.N_lit (Kd.slice 5 (Kd.int .u8)) _ 23 ?hg (N' := 54) ?hd (xs := ([x4_1, t148, x7_12] : List (List Int))) (inner := [.slice Ao56 x4_1.length co56, .slice Ao57 t148.length co57, .slice Ao54 x7_12.length co54]) (ok := (fun k_ => (w.heap.size ≤ k_) ∧ k_ ≠ gb114)) (okp := (fun k_ => (w.heap.size ≤ k_) ∧ k_ ≠ gb114)) ?hr ?hp (fun _ hk => hk) ((show ∀ k_, w55.heap.size ≤ k_ → (fun k_ => (w.heap.size ≤ k_) ∧ k_ ≠ gb114) k_ from fun k_ hk => ⟨(Nat.le_trans (below_size (by repeat (first | (with_reducible first | exact HB.out | apply below_alloc | apply pw_below_drewN | apply below_drew1 | refine below_set ?_ GE114.out) | exact HB.out))) hk), Kd.freshB (g := gb114) (o := .cells #[.int .i64 ((rd_T34 l0 x17_1).f0), .int .i64 ((rd_T34 l0 x17_1).f1), .int .i64 ((rd_T34 l0 x17_1).f2), .int .i64 ((rd_T34 l0 x17_1).f3)] 34 (0, 0)) (by (with_reducible repeat (first | refine blk_drewN ?_ _ | refine blk_drew ?_ | refine blk_alloc ?_ _)); exact BK114.out) k_ hk⟩) _ (Nat.le_refl _)) (Below.refl _ _) (Nat.le_refl _) (by simp) ?_; (case hd => rfl); (case hg => rfl); (case hr => first | (go_simp; done) | (go_simp; rfl)); (case hp => exact (Reps.one (show Kd.FK (Kd.slice 5 (Kd.int .u8)) _ _ x4_1 [.slice Ao56 x4_1.length co56] from (Kd.FK_slice_mk (Kd.V_reads' (Kd.V_mono (ok' := (fun k_ => (w.heap.size ≤ k_) ∧ k_ ≠ gb114)) (HO_4.out) (fun k_ hk => ⟨hk.1, hk.2.2⟩))).2.1 (Kd.V_F (Kd.V_mono (ok' := (fun k_ => (w.heap.size ≤ k_) ∧ k_ ≠ gb114)) (HO_4.out) (fun k_ hk => ⟨hk.1, hk.2.2⟩))))) (Reps.one (show Kd.FK (Kd.slice 5 (Kd.int .u8)) _ _ t148 [.slice Ao57 t148.length co57] from (Kd.FK_slice_mk (Kd.V_reads' (Kd.V_mono (ok' := (fun k_ => (w.heap.size ≤ k_) ∧ k_ ≠ gb114)) (HO150.out) (fun k_ hk => ⟨hk.1, hk.2.2⟩))).2.1 (Kd.V_F (Kd.V_mono (ok' := (fun k_ => (w.heap.size ≤ k_) ∧ k_ ≠ gb114)) (HO150.out) (fun k_ hk => ⟨hk.1, hk.2.2⟩))))) (Reps.one (show Kd.FK (Kd.slice 5 (Kd.int .u8)) _ _ x7_12 [.slice Ao54 x7_12.length co54] from (Kd.FK_slice_mk (Kd.R_reads' (Kd.R_mono (ok' := (fun k_ => (w.heap.size ≤ k_) ∧ k_ ≠ gb114)) (Kd.R_types (HO_7.out) BK114.out (by decide)) (fun k_ hk => ⟨hk.1, hk.2⟩))).2.1 (Kd.R_F (Kd.R_mono (ok' := (fun k_ => (w.heap.size ≤ k_) ∧ k_ ≠ gb114)) (Kd.R_types (HO_7.out) BK114.out (by decide)) (fun k_ hk => ⟨hk.1, hk.2⟩))))) (Reps.none _ _))))); intro v152 w58 ho59 hb hg_ hnew_; clear hg_ hnew_; (first | rw [← Ny151.out] at ho59 | (simp only [Int.reduceToNat] at ho59; rw [← Ny151.out] at ho59)); have n0_ := Aside0.mk (Kd.V_elder' (by (with_reducible repeat (first | apply Kd.V_alloc | apply Kd.V_drewN | apply Kd.V_drew)); exact HO_4.out) (Kd.N_base ho59) hb); have n1_ := Aside0.mk (Kd.V_elder' (by (with_reducible repeat (first | apply Kd.V_alloc | apply Kd.V_drewN | apply Kd.V_drew)); exact HO150.out) (Kd.N_base ho59) hb); have n2_ := Aside0.mk (Kd.N_lower ho59 (below_size (by repeat (first | (with_reducible first | exact HB.out | apply below_alloc | apply pw_below_drewN | apply below_drew1 | refine below_set ?_ GE114.out) | exact HB.out)))); have n3_ := Aside0.mk (blk_below (g := gb114) (o := .cells #[.int .i64 ((rd_T34 l0 x17_1).f0), .int .i64 ((rd_T34 l0 x17_1).f1), .int .i64 ((rd_T34 l0 x17_1).f2), .int .i64 ((rd_T34 l0 x17_1).f3)] 34 (0, 0)) (by (with_reducible repeat (first | refine blk_drewN ?_ _ | refine blk_drew ?_ | refine blk_alloc ?_ _)); exact BK114.out) hb); have n4_ := Aside0.mk (below_step (by repeat (first | (with_reducible first | exact HB.out | apply below_alloc | apply pw_below_drewN | apply below_drew1 | refine below_set ?_ GE114.out) | exact HB.out)) hb); clear HO_4; clear HO150; clear BK114; clear HB; clear HO_7; have HO_4 := n0_; have HO150 := n1_; have HO153 := n2_; have BK114 := n3_; have HB := n4_; clear n0_ n1_ n2_ n3_ n4_; clear hb ho59; obtain ⟨Ao60, co60, eo60⟩ := Kd.N_slice HO153.out; subst eo60) | ((with_reducible refine gate_callee (f := 42) rfl ?_); refine goesL_ (some 55) rfl rfl Tryd.func42 (by kernel_rfl) rfl #[.slice Ao60 y151.length co60] rfl (by (try simp only [List.map_toArray, List.map_cons, List.map_nil]); first | done | rfl | (simp only [List.length_drop, List.length_take]; rfl)) ?_; (with_reducible refine (slices_Concat_byte_byte.calls _ _ y151 t154 _ ?side1 ?side2 A52.out).mono ?_); (case side1 => repeat (first | exact (Kd.N_reads' HO153.out).2.2 | (with_reducible refine Kd.C_alloc ?_ _) | (with_reducible refine Kd.C_drewN ?_ _) | (with_reducible refine Kd.C_drew ?_))); (case side2 => exact (Kd.N_reads' HO153.out).2.1); rintro e w61 ⟨v155, rfl, ho0, hb⟩; refine ⟨_, rfl, ?_⟩; have n0_ := Aside0.mk (Kd.V_elder' (by (with_reducible repeat (first | apply Kd.V_alloc | apply Kd.V_drewN | apply Kd.V_drew)); exact HO_4.out) (Kd.R_base ho0) hb); have n1_ := Aside0.mk (Kd.V_elder' (by (with_reducible repeat (first | apply Kd.V_alloc | apply Kd.V_drewN | apply Kd.V_drew)); exact HO150.out) (Kd.R_base ho0) hb); have n2_ := Aside0.mk (Kd.N_elder' (by (with_reducible repeat (first | apply Kd.N_alloc | apply Kd.N_drewN | apply Kd.N_drew)); exact HO153.out) (Kd.R_base ho0) hb); have n3_ := Aside0.mk (Kd.R_lower (Kd.R_newM (M := fun k_ => (w.heap.size ≤ k_)) ho0 (below_size (by repeat (first | (with_reducible first | exact HB.out | apply below_alloc | apply pw_below_drewN | apply below_drew1 | refine below_set ?_ GE114.out) | exact HB.out))) (fun k_ h_ => h_)) (below_size (by repeat (first | (with_reducible first | exact HB.out | apply below_alloc | apply pw_below_drewN | apply below_drew1 | refine below_set ?_ GE114.out) | exact HB.out)))); have n4_ := Aside0.mk (blk_below (g := gb114) (o := .cells #[.int .i64 ((rd_T34 l0 x17_1).f0), .int .i64 ((rd_T34 l0 x17_1).f1), .int .i64 ((rd_T34 l0 x17_1).f2), .int .i64 ((rd_T34 l0 x17_1).f3)] 34 (0, 0)) (by (with_reducible repeat (first | refine blk_drewN ?_ _ | refine blk_drew ?_ | refine blk_alloc ?_ _)); exact BK114.out) hb); have n5_ := Aside0.mk (below_step (by repeat (first | (with_reducible first | exact HB.out | apply below_alloc | apply pw_below_drewN | apply below_drew1 | refine below_set ?_ GE114.out) | exact HB.out)) hb); clear HO_4; clear HO150; clear HO153; clear BK114; clear HB; have HO_4 := n0_; have HO150 := n1_; have HO153 := n2_; have HO156 := n3_; have BK114 := n4_; have HB := n5_; clear n0_ n1_ n2_ n3_ n4_ n5_; (try clear hb); (try clear hb2); (try clear hk); (try clear hi); (try clear ho0)))
                      go_roundg kj12
                      case measure => have := HK1.out; have := HJ12.out; omega
                      case rel => exact ⟨(t154), (wrap64 (x17_1 + 1)), (by first | rfl | (simp; done) | (simp [*]; done)), H', ⟨by have := HK1.out; have := HJ12.out; omega⟩, ⟨Kd.R_V (by (with_reducible repeat (first | apply Kd.R_alloc | apply Kd.R_drewN | apply Kd.R_drew)); exact Kd.R_mono HO156.out (fun _ hk => hk.1))⟩, ⟨by repeat (first | (with_reducible first | exact HB.out | apply below_alloc | apply pw_below_drewN | apply below_drew1 | refine below_set ?_ GE114.out) | exact HB.out)⟩⟩
              · rw [if_neg c11] at H
                exact absurd H (by simp)
            · rw [if_neg c9] at H
              exact absurd H (by simp)
          · rw [if_neg c8] at H
            exact absurd H (by simp)
        · rw [if_neg c7] at H
          have c7b0 : decide (x17_1 < (l0.length : Int)) = false := decide_eq_false c7
          clear c7
          simp only [Option.some.injEq, Prod.mk.injEq] at H
          obtain ⟨rfl, rfl⟩ := H
          go_wp2
          go_ret2
          exact ⟨_, by first | rfl | (simp [errW_none, errW_some] <;> rfl) | (simp [*, errW_none, errW_some] <;> rfl), by (with_reducible repeat (first | apply Kd.V_alloc | apply Kd.V_drewN | apply Kd.V_drew)); exact HO_4.out, by repeat (first | (with_reducible first | exact HB.out | apply below_alloc | apply pw_below_drewN | apply below_drew1) | exact HB.out)⟩
  · replace c3 := Bool.eq_false_iff.mpr c3
    subst c3
    have H1 : (some (([] : List Int), 1)) = some (r1, r2) := by rw [if_neg (show ¬ (false = true) by decide)] at H; exact H
    clear H
    have H := H1
    clear H1
    simp only [Option.some.injEq, Prod.mk.injEq] at H
    obtain ⟨rfl, rfl⟩ := H
    go_enter Tryd.func12, Tryd.ntmps12
    go_wp2_with (first | ((with_reducible refine gate_callee (f := 31) rfl ?_); refine goesL_ (some 9) rfl rfl Tryd.func31 (by kernel_rfl) rfl #[.slice A0 l0.length c0] rfl (by (try simp only [List.map_toArray, List.map_cons, List.map_nil]); first | done | rfl | (simp only [List.length_drop, List.length_take]; rfl)) ?_; (with_reducible refine (text_Right.calls _ _ l0 false _ ?side1 ?side2 A2.out (KTab.below HTAB.out (by repeat (first | (with_reducible first | exact HB.out | apply below_alloc | apply pw_below_drewN | apply below_drew1) | exact HB.out)))).mono ?_); (case side1 => repeat (first | exact HR0.out | (with_reducible refine Kd.C_alloc ?_ _) | (with_reducible refine Kd.C_drewN ?_ _) | (with_reducible refine Kd.C_drew ?_))); (case side2 => exact HC0.out); rintro e w62 ⟨rfl, hb⟩; refine ⟨_, rfl, ?_⟩; have n0_ := Aside0.mk (below_step (by repeat (first | (with_reducible first | exact HB.out | apply below_alloc | apply pw_below_drewN | apply below_drew1) | exact HB.out)) hb); clear HB; have HB := n0_; clear n0_; (try clear hb); (try clear hb2); (try clear hk); (try clear hi)))
    go_ret2
    exact ⟨_, by first | rfl | (simp [errW_none, errW_some] <;> rfl) | (simp [*, errW_none, errW_some] <;> rfl), (by exact Kd.V_nil _ _ _ _ _), by repeat (first | (with_reducible first | exact HB.out | apply below_alloc | apply pw_below_drewN | apply below_drew1) | exact HB.out)⟩

end Go.Proofs.YthkpocgbinmeiaaDoor.P

-- Written by gprint.py, a program of this session's: the kit's print with given functions beside. Not trusted: Lean checks it.
import Derived.Test.YtkjkceeopkfniaaDoorP0
import Derived.Test.YtkjkceeopkfniaaDoorP1
import Derived.Test.YtkjkceeopkfniaaDoorP4
import Derived.Test.YtkjkceeopkfniaaDoorGTable
namespace Go.Proofs.YtkjkceeopkfniaaDoor.P
open Go.RowKit Go.Proofs.YtkjkceeopkfniaaDoorW.PrintWords Go.Proofs.YtkjkceeopkfniaaDoorW.PrintLast Go.Proofs.YtkjkceeopkfniaaDoorW.PrintMore
attribute [local go_sem] max2_int min2_int max_two min_two max_three min_three max_four min_four   -- for this text's walks alone
set_option linter.unusedVariables false
set_option linter.unusedSimpArgs false

attribute [local go_sem high] eqA52
/-! ### recantref05_First: function 74 -/
def recantref05_First.l0 : Nat → List (S36) → List (S36) → Int → Int → Option (Int)
  | 0, _, _, _, _ => none
  | k + 1, x0, x5, x6, x7 => if x7 < x6 then (if 0 ≤ x7 then (if x7 < (x5.length : Int) then (if x7 ≤ (x0.length : Int) then ((recantref05_Last.f k (x0.take (x7 : Int).toNat) ((rd_T36 x5 x7).f1)).bind fun t138 => ((recantref05_May.f k t138 ((rd_T36 x5 x7).f0)).bind fun t139 => (if t139 = true then (recantref05_First.l0 k x0 x5 x6 (wrap64 (x7 + 1))) else (some x7)))) else (none)) else (none)) else (none)) else (some (x0.length : Int))
def recantref05_First.f (k : Nat) (l0 : List (S36)) : Option (Int) := recantref05_First.l0 k l0 l0 (l0.length : Int) 0
theorem recantref05_First.mono_l : ∀ k, (∀ y0 y1 y2 y3, LeO (recantref05_First.l0 k y0 y1 y2 y3) (recantref05_First.l0 (k + 1) y0 y1 y2 y3))
  | 0 => fun _ _ _ _ r h => by simp [recantref05_First.l0] at h
  | k + 1 => by
    have ih0 := recantref05_First.mono_l k
    · intro y0 y1 y2 y3
      unfold recantref05_First.l0
      repeat' first
      | (with_reducible exact ih0 _ _ _ _)
      | (with_reducible exact recantref05_Last.mono _ _ _)
      | (with_reducible exact recantref05_May.mono _ _ _)
      | (with_reducible exact LeO.refl _)
      | (with_reducible exact LeO.none _)
      | (with_reducible refine LeO.ite ?_ ?_)
      | (with_reducible refine LeO.bind ?_ (fun _ => ?_))
      | exact ih0 _ _ _ _
      | exact recantref05_Last.mono _ _ _
      | exact recantref05_May.mono _ _ _
      | exact LeO.none _
      | refine LeO.ite ?_ ?_
      | refine LeO.bind ?_ (fun _ => ?_)
theorem recantref05_First.mono : ∀ a0 k, LeO (recantref05_First.f k a0) (recantref05_First.f (k + 1) a0) := by
  intro a0 k
  have ih0 := recantref05_First.mono_l k
  unfold recantref05_First.f
  repeat' first
      | (with_reducible exact ih0 _ _ _ _)
      | (with_reducible exact recantref05_Last.mono _ _ _)
      | (with_reducible exact recantref05_May.mono _ _ _)
      | (with_reducible exact LeO.refl _)
      | (with_reducible exact LeO.none _)
      | (with_reducible refine LeO.ite ?_ ?_)
      | (with_reducible refine LeO.bind ?_ (fun _ => ?_))
      | exact ih0 _ _ _ _
      | exact recantref05_Last.mono _ _ _
      | exact recantref05_May.mono _ _ _
      | exact LeO.none _
      | refine LeO.ite ?_ ?_
      | refine LeO.bind ?_ (fun _ => ?_)
def recantref05_First.T4 : Bool × List (List Nat × List Nat) := (true, [([], []), ([], []), ([0, 1], [0, 1]), ([], []), ([3], [3]), ([2, 4], [2, 4]), ([], []), ([6], [6]), ([5, 7, 5], [5, 7]), ([8], [8])])
def recantref05_First.B4 : List Nat := [0, 0, 3, 0, 8, 31, 0, 64, 255, 511]
theorem recantref05_First.tab4 : rtab .any (opsOf Tryd.f74 4) = recantref05_First.T4 := by kernel_rfl
theorem recantref05_First.bits4 : waitsOk recantref05_First.T4.2 recantref05_First.B4 = true := by kernel_rfl
set_option maxHeartbeats 8000000 in
set_option maxRecDepth 100000 in
theorem recantref05_First.calls (k : Nat) (A0 : Option Addr) (c0 : Nat) (l0 : List (S36)) (r : Int) (w : World) (hr0 : Kd.C k36 w A0 l0.length l0) (hc0 : l0.length ≤ c0) (h : recantref05_First.f k l0 = some r) :
    Calls Tryd.prog 74 #[.slice A0 l0.length c0] w fun e w' => e = .returned (.int .i64 r) ∧ Below w.heap.size w w' := by
  have hu36 := Tryd.underlying36
  have HR0 := Aside0.mk hr0
  have HC0 := Aside0.mk hc0
  clear hr0 hc0
  have HB := Aside0.mk (Below.refl w.heap.size w)
  have H : (recantref05_First.l0 k l0 l0 (l0.length : Int) 0) = some r := h
  clear h
  have H' := Aside0.mk H
  clear H
  go_enter Tryd.func74, Tryd.ntmps74
  go_wp2
  go_loopg [7] k (fun kq v7 w' => ∃ (x7_1 : Int), v7 = .int .i64 x7_1 ∧ Aside0 (recantref05_First.l0 kq l0 l0 (l0.length : Int) x7_1 = some r) ∧ Aside0 (kq ≤ k) ∧ Aside0 (Below w.heap.size w w'))
  case atStart => exact ⟨(0), (by first | rfl | (simp; done) | (simp [*]; done)), H', ⟨Nat.le_refl _⟩, ⟨by repeat (first | (with_reducible first | exact HB.out | apply below_alloc | apply pw_below_drewN | apply below_drew1) | exact HB.out)⟩⟩
  case round =>
    clear H'
    obtain ⟨x7_1, rfl, HA, HK1, HB⟩ := hrel
    cases gk with
    | zero => exact absurd HA.out (by simp [recantref05_First.l0])
    | succ k1 =>
      have H := HA.out
      clear HA
      simp only [recantref05_First.l0] at H
      by_cases c2 : x7_1 < (l0.length : Int)
      · rw [if_pos c2] at H
        have c2b0 : decide (x7_1 < (l0.length : Int)) = true := decide_eq_true c2
        clear c2
        by_cases c3 : 0 ≤ x7_1
        · rw [if_pos c3] at H
          have c3b0 : decide (0 ≤ x7_1) = true := decide_eq_true c3
          clear c3
          by_cases c4 : x7_1 < (l0.length : Int)
          · rw [if_pos c4] at H
            have c4b0 : decide (x7_1 < (l0.length : Int)) = true := decide_eq_true c4
            clear c4
            have c5b0 := eq_true (of_decide_eq_true (by first | (with_reducible assumption) | assumption) : 0 ≤ x7_1)
            by_cases c6 : x7_1 ≤ (l0.length : Int)
            · rw [if_pos c6] at H
              have c6b0 := eq_true c6
              have c6b1 : decide (x7_1 ≤ (l0.length : Int)) = true := decide_eq_true c6
              clear c6
              obtain ⟨y134, hy134⟩ : ∃ y_ : List (S36), y_ = (l0.take (x7_1 : Int).toNat) := ⟨_, rfl⟩
              replace H : ((recantref05_Last.f k1 y134 ((rd_T36 l0 x7_1).f1)).bind fun t138 => ((recantref05_May.f k1 t138 ((rd_T36 l0 x7_1).f0)).bind fun t139 => (if t139 = true then (recantref05_First.l0 k1 l0 l0 (l0.length : Int) (wrap64 (x7_1 + 1))) else (some x7_1)))) = some r := by first | (rw [hy134]; with_reducible exact H) | (have H2_ := (Option.bind_some _ _).symm.trans H; rw [hy134]; with_reducible exact H2_) | (have H2_ := (Option.bind_some _ _).symm.trans H; with_reducible exact H2_) | with_reducible exact H | (rw [hy134]; exact H) | exact H
              have Ny134 := Aside0.mk hy134
              clear hy134
              replace H := Option.bind_eq_some_iff.mp H
              obtain ⟨t138, A70, H⟩ := H
              replace H : ((recantref05_May.f k1 t138 ((rd_T36 l0 x7_1).f0)).bind fun t139 => (if t139 = true then (recantref05_First.l0 k1 l0 l0 (l0.length : Int) (wrap64 (x7_1 + 1))) else (some x7_1))) = some r := H
              have A7 := Aside0.mk A70
              clear A70
              replace H := Option.bind_eq_some_iff.mp H
              obtain ⟨t139, A80, H⟩ := H
              replace H : (if t139 = true then (recantref05_First.l0 k1 l0 l0 (l0.length : Int) (wrap64 (x7_1 + 1))) else (some x7_1)) = some r := H
              have A8 := Aside0.mk A80
              clear A80
              by_cases c9 : t139 = true
              · subst c9
                have H1 : (recantref05_First.l0 k1 l0 l0 (l0.length : Int) (wrap64 (x7_1 + 1))) = some r := by rw [if_pos rfl] at H; exact H
                clear H
                have H := H1
                clear H1
                have H' := Aside0.mk H
                clear H
                have p132 : 0 ≤ (x7_1 : Int) := of_decide_eq_true (by first | (with_reducible assumption) | assumption)
                have q132 : x7_1 < (l0.length : Int) := of_decide_eq_true (by first | (with_reducible assumption) | assumption)
                obtain ⟨ad132, e132, hx132_0, hx132_1, hx132_2, hx132_3⟩ := at_T36 HR0.out x7_1 p132 q132
                cases e132
                replace hx132_0 := (HB.out.cell (World.block_lt_of_cell? w _ hx132_0)).trans hx132_0
                replace hx132_1 := (HB.out.cell (World.block_lt_of_cell? w _ hx132_1)).trans hx132_1
                replace hx132_2 := (HB.out.cell (World.block_lt_of_cell? w _ hx132_2)).trans hx132_2
                replace hx132_3 := (HB.out.cell (World.block_lt_of_cell? w _ hx132_3)).trans hx132_3
                replace p132 := eq_true p132
                replace q132 := eq_true q132
                try go_wp2_with (first | ((with_reducible refine gate_dst (N := 4) rfl ?_); refine box_event ?hg (N := 4) ?hd (cs := #[.int .i64 0, .int .i64 0, .int .i64 0, .int .i64 0]) (t := 36) ?hr ?_; (case hd => rfl); (case hg => rfl); (case hr => first | (go_simp; done) | (go_simp; rfl)); intro gb133 hg w10 hbox hb; have n0_ := Aside0.mk (below_step (by repeat (first | (with_reducible first | exact HB.out | apply below_alloc | apply pw_below_drewN | apply below_drew1) | exact HB.out)) hb); have n1_ := Aside0.mk (hbox); have n2_ := Aside0.mk ((by rw [hg]; exact (below_size (by repeat (first | (with_reducible first | exact HB.out | apply below_alloc | apply pw_below_drewN | apply below_drew1) | exact HB.out))) : w.heap.size ≤ gb133)); have n3_ := Aside0.mk ((by rw [hg]; exact (below_size (by repeat (first | (with_reducible first | exact HB.out | apply below_alloc | apply pw_below_drewN | apply below_drew1) | exact HB.out))) : w.heap.size ≤ gb133)); clear HB; have HB := n0_; have BK133 := n1_; have GW133 := n2_; have GE133 := n3_; clear n0_ n1_ n2_ n3_; clear hb hbox hg; have hcz11_0 : w10.cell? ⟨gb133, 0, none⟩ = some (.int .i64 0) := (blk_cell BK133.out 0).trans rfl; have hcz11_1 : w10.cell? ⟨gb133, 1, none⟩ = some (.int .i64 0) := (blk_cell BK133.out 1).trans rfl; have hcz11_2 : w10.cell? ⟨gb133, 2, none⟩ = some (.int .i64 0) := (blk_cell BK133.out 2).trans rfl; have hcz11_3 : w10.cell? ⟨gb133, 3, none⟩ = some (.int .i64 0) := (blk_cell BK133.out 3).trans rfl; have hfz11_0 := blk_frozen BK133.out 0; have hfz11_1 := blk_frozen BK133.out 1; have hfz11_2 := blk_frozen BK133.out 2; have hfz11_3 := blk_frozen BK133.out 3))
                have n0_ : Aside0 (((((w10.setCell ⟨gb133, 0, none⟩ (.int .i64 ((rd_T36 l0 x7_1).f0))).setCell ⟨gb133, 1, none⟩ (.int .i64 ((rd_T36 l0 x7_1).f1))).setCell ⟨gb133, 2, none⟩ (.int .i64 ((rd_T36 l0 x7_1).f2))).setCell ⟨gb133, 3, none⟩ (.int .i64 ((rd_T36 l0 x7_1).f3))).heap[gb133]? = some (.cells #[.int .i64 ((rd_T36 l0 x7_1).f0), .int .i64 ((rd_T36 l0 x7_1).f1), .int .i64 ((rd_T36 l0 x7_1).f2), .int .i64 ((rd_T36 l0 x7_1).f3)] 36 (0, 0))) := ⟨by (with_reducible repeat (first | refine blk_drewN ?_ _ | refine blk_drew ?_ | refine blk_alloc ?_ _)); refine blk_put (cs := #[.int .i64 ((rd_T36 l0 x7_1).f0), .int .i64 ((rd_T36 l0 x7_1).f1), .int .i64 ((rd_T36 l0 x7_1).f2), .int .i64 0]) ?_ 3 _ rfl; (with_reducible repeat (first | refine blk_drewN ?_ _ | refine blk_drew ?_ | refine blk_alloc ?_ _)); refine blk_put (cs := #[.int .i64 ((rd_T36 l0 x7_1).f0), .int .i64 ((rd_T36 l0 x7_1).f1), .int .i64 0, .int .i64 0]) ?_ 2 _ rfl; (with_reducible repeat (first | refine blk_drewN ?_ _ | refine blk_drew ?_ | refine blk_alloc ?_ _)); refine blk_put (cs := #[.int .i64 ((rd_T36 l0 x7_1).f0), .int .i64 0, .int .i64 0, .int .i64 0]) ?_ 1 _ rfl; (with_reducible repeat (first | refine blk_drewN ?_ _ | refine blk_drew ?_ | refine blk_alloc ?_ _)); refine blk_put (cs := #[.int .i64 0, .int .i64 0, .int .i64 0, .int .i64 0]) ?_ 0 _ rfl; (with_reducible repeat (first | refine blk_drewN ?_ _ | refine blk_drew ?_ | refine blk_alloc ?_ _)); exact BK133.out⟩
                have n1_ : Aside0 (Below w.heap.size w ((((w10.setCell ⟨gb133, 0, none⟩ (.int .i64 ((rd_T36 l0 x7_1).f0))).setCell ⟨gb133, 1, none⟩ (.int .i64 ((rd_T36 l0 x7_1).f1))).setCell ⟨gb133, 2, none⟩ (.int .i64 ((rd_T36 l0 x7_1).f2))).setCell ⟨gb133, 3, none⟩ (.int .i64 ((rd_T36 l0 x7_1).f3)))) := ⟨by repeat (first | (with_reducible first | exact HB.out | apply below_alloc | apply pw_below_drewN | apply below_drew1 | refine below_set ?_ GE133.out) | exact HB.out)⟩
                (try clear BK133)
                (try clear HB)
                generalize ((((w10.setCell ⟨gb133, 0, none⟩ (.int .i64 ((rd_T36 l0 x7_1).f0))).setCell ⟨gb133, 1, none⟩ (.int .i64 ((rd_T36 l0 x7_1).f1))).setCell ⟨gb133, 2, none⟩ (.int .i64 ((rd_T36 l0 x7_1).f2))).setCell ⟨gb133, 3, none⟩ (.int .i64 ((rd_T36 l0 x7_1).f3))) = w12 at n0_ n1_ ⊢
                have BK133 := n0_
                have HB := n1_
                clear n0_ n1_
                have n0_ := Aside0.mk (blk_drew BK133.out)
                have n1_ := Aside0.mk (below_drew1 HB.out)
                clear BK133
                clear HB
                have BK133 := n0_
                have HB := n1_
                clear n0_ n1_
                have q14 : (x7_1 : Int) ≤ ((l0.length : Int) : Int) := of_decide_eq_true (by first | (with_reducible assumption) | assumption)
                obtain ⟨i014, hi014, _, hsz14, _⟩ := info_parts info36
                have hroom14 : l0.length ≤ c0 := HC0.out
                have hC14 : Kd.C k36 _ (some ad132) l0.length l0 := HR0.out
                have hcut14 := cut_to (P := Tryd.prog) 22 36 .i64 Tryd.underlying22 hi014 (some ad132) l0.length c0 x7_1 (of_decide_eq_true (by first | (with_reducible assumption) | assumption)) q14 hroom14
                have hr14 := Kd.C_take (m := (x7_1 : Int).toNat) hC14 (by omega)
                have hy14 : y134.length = (x7_1 : Int).toNat := (by rw [Ny134.out, List.length_take]; omega)
                rw [← Ny134.out] at hr14
                rw [← hy14] at hcut14
                have HR137 := Aside0.mk hr14
                have HC137 := Aside0.mk (show y134.length ≤ c0 from by omega)
                clear hr14 hC14 hroom14 hi014 hsz14
                have KY14 := Aside0.mk hy14
                clear hy14
                replace q14 := eq_true q14
                refine start_ (n := 10) (S := fun w' => w'.cell? ⟨gb133, 0, none⟩ = some (.int .i64 ((rd_T36 l0 x7_1).f0)) ∧ w'.cell? ⟨gb133, 1, none⟩ = some (.int .i64 ((rd_T36 l0 x7_1).f1)) ∧ w'.cell? ⟨gb133, 2, none⟩ = some (.int .i64 ((rd_T36 l0 x7_1).f2)) ∧ w'.cell? ⟨gb133, 3, none⟩ = some (.int .i64 ((rd_T36 l0 x7_1).f3))) (ds := []) #[false, false, false, false, false, false, false, false, false, false] (by kernel_rfl) rfl rfl ⟨(blk_cell BK133.out 0).trans rfl, (blk_cell BK133.out 1).trans rfl, (blk_cell BK133.out 2).trans rfl, (blk_cell BK133.out 3).trans rfl⟩ (fun hHeld => ?_); refine with_tabW recantref05_First.tab4 recantref05_First.bits4 (fun HT_ HW_ => ?_)
                generalize w12.drew = w13 at BK133 HB HR137 hHeld ⊢
                refine pure_ (i := 0) (N := some 12) (v := ?_) (a' := ?_) #[true, false, false, false, false, false, false, false, false, false] rfl rfl (any_of HT_.out (by kernel_rfl)) (fun _ _ _ h => h) (Or.inl ⟨by rfl, ?_⟩) ?_ ?_
                rotate_left
                · intro w'
                  go_simp
                  with_reducible rfl
                rotate_left
                · simp only [Act.put, List.setIfInBounds_toArray, List.set_cons_zero, List.set_cons_succ, i64_w, i32_w]
                  rfl
                refine pure_ (i := 1) (N := some 13) (v := ?_) (a' := ?_) #[true, true, false, false, false, false, false, false, false, false] rfl rfl (any_of HT_.out (by kernel_rfl)) (fun _ _ _ h => h) (Or.inl ⟨by rfl, ?_⟩) ?_ ?_
                rotate_left
                · intro w'
                  go_simp
                  with_reducible rfl
                rotate_left
                · simp only [Act.put, List.setIfInBounds_toArray, List.set_cons_zero, List.set_cons_succ, i64_w, i32_w]
                  rfl
                refine pure_ (i := 2) (N := some 14) (v := ?_) (a' := ?_) #[true, true, true, false, false, false, false, false, false, false] rfl rfl (any_of HT_.out (by kernel_rfl)) (fun _ _ _ h => h) (Or.inl ⟨by rfl, ?_⟩) ?_ ?_
                rotate_left
                · intro w'
                  go_simp
                  with_reducible rfl
                rotate_left
                · simp only [Act.put, List.setIfInBounds_toArray, List.set_cons_zero, List.set_cons_succ, i64_w, i32_w]
                  rfl
                refine pure_ (i := 3) (N := some 15) (v := ?_) (a' := ?_) #[true, true, true, true, false, false, false, false, false, false] rfl rfl (any_of HT_.out (by kernel_rfl)) (fun _ _ _ h => h) (Or.inl ⟨by rfl, ?_⟩) ?_ ?_
                rotate_left
                · intro w'
                  go_simp
                  with_reducible rfl
                rotate_left
                · simp only [Act.put, List.setIfInBounds_toArray, List.set_cons_zero, List.set_cons_succ, i64_w, i32_w]
                  rfl
                refine pure_ (i := 6) (N := some 18) (v := ?_) (a' := ?_) #[true, true, true, true, false, false, true, false, false, false] rfl rfl (any_of HT_.out (by kernel_rfl)) (fun _ _ _ h => h) (Or.inl ⟨by rfl, ?_⟩) ?_ ?_
                rotate_left
                · intro w'
                  go_simp
                  with_reducible rfl
                rotate_left
                · simp only [Act.put, List.setIfInBounds_toArray, List.set_cons_zero, List.set_cons_succ, i64_w, i32_w]
                  rfl
                refine take_ (i := 4) (N := some 16) (v := ?_) (a' := ?_) #[true, true, true, true, true, false, true, false, false, false] rfl rfl (take_ofW HT_.out HW_.out (by kernel_rfl)) (fun _ _ _ h => h) (Or.inl ⟨by rfl, ?_⟩) hHeld ?_ ?_
                rotate_left
                · rintro w' ⟨s0, s1, s2, s3⟩
                  go_simp
                  with_reducible rfl
                rotate_left
                · simp only [Act.put, List.setIfInBounds_toArray, List.set_cons_zero, List.set_cons_succ, i64_w, i32_w]
                  rfl
                refine take_ (i := 7) (N := some 19) (v := ?_) (a' := ?_) #[true, true, true, true, true, false, true, true, false, false] rfl rfl (take_ofW HT_.out HW_.out (by kernel_rfl)) (fun _ _ _ h => h) (Or.inl ⟨by rfl, ?_⟩) hHeld ?_ ?_
                rotate_left
                · rintro w' ⟨s0, s1, s2, s3⟩
                  go_simp
                  with_reducible rfl
                rotate_left
                · simp only [Act.put, List.setIfInBounds_toArray, List.set_cons_zero, List.set_cons_succ, i64_w, i32_w]
                  rfl
                refine one_ (i := 5) (N := some 17) #[true, true, true, true, true, true, true, true, false, false] rfl rfl (one_of HT_.out (by kernel_rfl)) (by decide) (fun K hK => ?_)
                refine goes_ Tryd.func77 (by kernel_rfl) rfl #[.slice (some ad132) y134.length c0, .int .i64 ((rd_T36 l0 x7_1).f1)] (by rfl) rfl rfl (by (try simp only [List.map_toArray, List.map_cons, List.map_nil]); first | done | rfl | (simp only [List.length_drop, List.length_take]; rfl)) ?_
                with_reducible refine (recantref05_Last.calls k1 _ _ y134 ((rd_T36 l0 x7_1).f1) t138 _ ?side1 ?side2 A7.out).mono ?_
                (case side1 => repeat (first | exact (Kd.C_below HR137.out HB.out) | (with_reducible refine Kd.C_alloc ?_ _) | (with_reducible refine Kd.C_drewN ?_ _) | (with_reducible refine Kd.C_drew ?_)))
                (case side2 => exact HC137.out)
                rintro e w15 ⟨rfl, hb⟩
                refine ⟨_, rfl, ?_⟩
                have n0_ := Aside0.mk (blk_below (g := gb133) (o := .cells #[.int .i64 ((rd_T36 l0 x7_1).f0), .int .i64 ((rd_T36 l0 x7_1).f1), .int .i64 ((rd_T36 l0 x7_1).f2), .int .i64 ((rd_T36 l0 x7_1).f3)] 36 (0, 0)) (by (with_reducible repeat (first | refine blk_drewN ?_ _ | refine blk_drew ?_ | refine blk_alloc ?_ _)); exact BK133.out) hb)
                have n1_ := Aside0.mk (below_step (by repeat (first | (with_reducible first | exact HB.out | apply below_alloc | apply pw_below_drewN | apply below_drew1 | refine below_set ?_ GE133.out) | exact HB.out)) hb)
                clear BK133
                clear HB
                have BK133 := n0_
                have HB := n1_
                clear n0_ n1_
                (try clear hb)
                (try clear hb2)
                (try clear hk)
                (try clear hi)
                refine hK.out _ _ ⟨(blk_cell BK133.out 0).trans rfl, (blk_cell BK133.out 1).trans rfl, (blk_cell BK133.out 2).trans rfl, (blk_cell BK133.out 3).trans rfl⟩ (fun hHeld => ?_)
                clear hK K
                refine norm_ (a' := ?_) ?_ ?_
                rotate_left
                · show Act.put _ (some 17) _ = _
                  simp only [Act.put, List.setIfInBounds_toArray, List.set_cons_zero, List.set_cons_succ, i64_w, i32_w]
                  rfl
                refine one_ (i := 8) (N := some 20) #[true, true, true, true, true, true, true, true, true, false] rfl rfl (one_of HT_.out (by kernel_rfl)) (by decide) (fun K hK => ?_)
                refine goes_ Tryd.func120 (by kernel_rfl) rfl #[.int .i64 t138, .int .i64 ((rd_T36 l0 x7_1).f0)] (by rfl) rfl rfl (by (try simp only [List.map_toArray, List.map_cons, List.map_nil]); first | done | rfl | (simp only [List.length_drop, List.length_take]; rfl)) ?_
                with_reducible refine (recantref05_May.calls k1 t138 ((rd_T36 l0 x7_1).f0) true _ A8.out).mono ?_
                rintro e w' ⟨rfl, ⟨nd, rfl⟩⟩
                refine ⟨_, rfl, ?_⟩
                refine hK.out _ _ ⟨(blk_cell BK133.out 0).trans rfl, (blk_cell BK133.out 1).trans rfl, (blk_cell BK133.out 2).trans rfl, (blk_cell BK133.out 3).trans rfl⟩ (fun hHeld => ?_)
                clear hK K
                refine norm_ (a' := ?_) ?_ ?_
                rotate_left
                · show Act.put _ (some 20) _ = _
                  simp only [Act.put, List.setIfInBounds_toArray, List.set_cons_zero, List.set_cons_succ, i64_w, i32_w]
                  rfl
                refine pure_ (i := 9) (N := some 21) (v := ?_) (a' := ?_) #[true, true, true, true, true, true, true, true, true, true] rfl rfl (any_of HT_.out (by kernel_rfl)) (fun _ _ _ h => h) (Or.inl ⟨by rfl, ?_⟩) ?_ ?_
                rotate_left
                · intro w'
                  go_simp
                  with_reducible rfl
                rotate_left
                · simp only [Act.put, List.setIfInBounds_toArray, List.set_cons_zero, List.set_cons_succ, i64_w, i32_w]
                  rfl
                refine done_ (done_of HT_.out (by kernel_rfl)) ?_
                try go_wp2
                go_roundg k1
                case measure => have := HK1.out; omega
                case rel => exact ⟨(wrap64 (x7_1 + 1)), (by first | rfl | (simp; done) | (simp [*]; done)), H', ⟨by have := HK1.out; omega⟩, ⟨by repeat (first | (with_reducible first | exact HB.out | apply below_alloc | apply pw_below_drewN | apply below_drew1 | refine below_set ?_ GE133.out) | exact HB.out)⟩⟩
              · replace c9 := Bool.eq_false_iff.mpr c9
                subst c9
                have H1 : (some x7_1) = some r := by rw [if_neg (show ¬ (false = true) by decide)] at H; exact H
                clear H
                have H := H1
                clear H1
                obtain rfl := Option.some.inj H
                have p132 : 0 ≤ (x7_1 : Int) := of_decide_eq_true (by first | (with_reducible assumption) | assumption)
                have q132 : x7_1 < (l0.length : Int) := of_decide_eq_true (by first | (with_reducible assumption) | assumption)
                obtain ⟨ad132, e132, hx132_0, hx132_1, hx132_2, hx132_3⟩ := at_T36 HR0.out x7_1 p132 q132
                cases e132
                replace hx132_0 := (HB.out.cell (World.block_lt_of_cell? w _ hx132_0)).trans hx132_0
                replace hx132_1 := (HB.out.cell (World.block_lt_of_cell? w _ hx132_1)).trans hx132_1
                replace hx132_2 := (HB.out.cell (World.block_lt_of_cell? w _ hx132_2)).trans hx132_2
                replace hx132_3 := (HB.out.cell (World.block_lt_of_cell? w _ hx132_3)).trans hx132_3
                replace p132 := eq_true p132
                replace q132 := eq_true q132
                try go_wp2_with (first | ((with_reducible refine gate_dst (N := 4) rfl ?_); refine box_event ?hg (N := 4) ?hd (cs := #[.int .i64 0, .int .i64 0, .int .i64 0, .int .i64 0]) (t := 36) ?hr ?_; (case hd => rfl); (case hg => rfl); (case hr => first | (go_simp; done) | (go_simp; rfl)); intro gb133 hg w16 hbox hb; have n0_ := Aside0.mk (below_step (by repeat (first | (with_reducible first | exact HB.out | apply below_alloc | apply pw_below_drewN | apply below_drew1) | exact HB.out)) hb); have n1_ := Aside0.mk (hbox); have n2_ := Aside0.mk ((by rw [hg]; exact (below_size (by repeat (first | (with_reducible first | exact HB.out | apply below_alloc | apply pw_below_drewN | apply below_drew1) | exact HB.out))) : w.heap.size ≤ gb133)); have n3_ := Aside0.mk ((by rw [hg]; exact (below_size (by repeat (first | (with_reducible first | exact HB.out | apply below_alloc | apply pw_below_drewN | apply below_drew1) | exact HB.out))) : w.heap.size ≤ gb133)); clear HB; have HB := n0_; have BK133 := n1_; have GW133 := n2_; have GE133 := n3_; clear n0_ n1_ n2_ n3_; clear hb hbox hg; have hcz17_0 : w16.cell? ⟨gb133, 0, none⟩ = some (.int .i64 0) := (blk_cell BK133.out 0).trans rfl; have hcz17_1 : w16.cell? ⟨gb133, 1, none⟩ = some (.int .i64 0) := (blk_cell BK133.out 1).trans rfl; have hcz17_2 : w16.cell? ⟨gb133, 2, none⟩ = some (.int .i64 0) := (blk_cell BK133.out 2).trans rfl; have hcz17_3 : w16.cell? ⟨gb133, 3, none⟩ = some (.int .i64 0) := (blk_cell BK133.out 3).trans rfl; have hfz17_0 := blk_frozen BK133.out 0; have hfz17_1 := blk_frozen BK133.out 1; have hfz17_2 := blk_frozen BK133.out 2; have hfz17_3 := blk_frozen BK133.out 3))
                have n0_ : Aside0 (((((w16.setCell ⟨gb133, 0, none⟩ (.int .i64 ((rd_T36 l0 x7_1).f0))).setCell ⟨gb133, 1, none⟩ (.int .i64 ((rd_T36 l0 x7_1).f1))).setCell ⟨gb133, 2, none⟩ (.int .i64 ((rd_T36 l0 x7_1).f2))).setCell ⟨gb133, 3, none⟩ (.int .i64 ((rd_T36 l0 x7_1).f3))).heap[gb133]? = some (.cells #[.int .i64 ((rd_T36 l0 x7_1).f0), .int .i64 ((rd_T36 l0 x7_1).f1), .int .i64 ((rd_T36 l0 x7_1).f2), .int .i64 ((rd_T36 l0 x7_1).f3)] 36 (0, 0))) := ⟨by (with_reducible repeat (first | refine blk_drewN ?_ _ | refine blk_drew ?_ | refine blk_alloc ?_ _)); refine blk_put (cs := #[.int .i64 ((rd_T36 l0 x7_1).f0), .int .i64 ((rd_T36 l0 x7_1).f1), .int .i64 ((rd_T36 l0 x7_1).f2), .int .i64 0]) ?_ 3 _ rfl; (with_reducible repeat (first | refine blk_drewN ?_ _ | refine blk_drew ?_ | refine blk_alloc ?_ _)); refine blk_put (cs := #[.int .i64 ((rd_T36 l0 x7_1).f0), .int .i64 ((rd_T36 l0 x7_1).f1), .int .i64 0, .int .i64 0]) ?_ 2 _ rfl; (with_reducible repeat (first | refine blk_drewN ?_ _ | refine blk_drew ?_ | refine blk_alloc ?_ _)); refine blk_put (cs := #[.int .i64 ((rd_T36 l0 x7_1).f0), .int .i64 0, .int .i64 0, .int .i64 0]) ?_ 1 _ rfl; (with_reducible repeat (first | refine blk_drewN ?_ _ | refine blk_drew ?_ | refine blk_alloc ?_ _)); refine blk_put (cs := #[.int .i64 0, .int .i64 0, .int .i64 0, .int .i64 0]) ?_ 0 _ rfl; (with_reducible repeat (first | refine blk_drewN ?_ _ | refine blk_drew ?_ | refine blk_alloc ?_ _)); exact BK133.out⟩
                have n1_ : Aside0 (Below w.heap.size w ((((w16.setCell ⟨gb133, 0, none⟩ (.int .i64 ((rd_T36 l0 x7_1).f0))).setCell ⟨gb133, 1, none⟩ (.int .i64 ((rd_T36 l0 x7_1).f1))).setCell ⟨gb133, 2, none⟩ (.int .i64 ((rd_T36 l0 x7_1).f2))).setCell ⟨gb133, 3, none⟩ (.int .i64 ((rd_T36 l0 x7_1).f3)))) := ⟨by repeat (first | (with_reducible first | exact HB.out | apply below_alloc | apply pw_below_drewN | apply below_drew1 | refine below_set ?_ GE133.out) | exact HB.out)⟩
                (try clear BK133)
                (try clear HB)
                generalize ((((w16.setCell ⟨gb133, 0, none⟩ (.int .i64 ((rd_T36 l0 x7_1).f0))).setCell ⟨gb133, 1, none⟩ (.int .i64 ((rd_T36 l0 x7_1).f1))).setCell ⟨gb133, 2, none⟩ (.int .i64 ((rd_T36 l0 x7_1).f2))).setCell ⟨gb133, 3, none⟩ (.int .i64 ((rd_T36 l0 x7_1).f3))) = w18 at n0_ n1_ ⊢
                have BK133 := n0_
                have HB := n1_
                clear n0_ n1_
                have n0_ := Aside0.mk (blk_drew BK133.out)
                have n1_ := Aside0.mk (below_drew1 HB.out)
                clear BK133
                clear HB
                have BK133 := n0_
                have HB := n1_
                clear n0_ n1_
                have q20 : (x7_1 : Int) ≤ ((l0.length : Int) : Int) := of_decide_eq_true (by first | (with_reducible assumption) | assumption)
                obtain ⟨i020, hi020, _, hsz20, _⟩ := info_parts info36
                have hroom20 : l0.length ≤ c0 := HC0.out
                have hC20 : Kd.C k36 _ (some ad132) l0.length l0 := HR0.out
                have hcut20 := cut_to (P := Tryd.prog) 22 36 .i64 Tryd.underlying22 hi020 (some ad132) l0.length c0 x7_1 (of_decide_eq_true (by first | (with_reducible assumption) | assumption)) q20 hroom20
                have hr20 := Kd.C_take (m := (x7_1 : Int).toNat) hC20 (by omega)
                have hy20 : y134.length = (x7_1 : Int).toNat := (by rw [Ny134.out, List.length_take]; omega)
                rw [← Ny134.out] at hr20
                rw [← hy20] at hcut20
                have HR137 := Aside0.mk hr20
                have HC137 := Aside0.mk (show y134.length ≤ c0 from by omega)
                clear hr20 hC20 hroom20 hi020 hsz20
                have KY20 := Aside0.mk hy20
                clear hy20
                replace q20 := eq_true q20
                refine start_ (n := 10) (S := fun w' => w'.cell? ⟨gb133, 0, none⟩ = some (.int .i64 ((rd_T36 l0 x7_1).f0)) ∧ w'.cell? ⟨gb133, 1, none⟩ = some (.int .i64 ((rd_T36 l0 x7_1).f1)) ∧ w'.cell? ⟨gb133, 2, none⟩ = some (.int .i64 ((rd_T36 l0 x7_1).f2)) ∧ w'.cell? ⟨gb133, 3, none⟩ = some (.int .i64 ((rd_T36 l0 x7_1).f3))) (ds := []) #[false, false, false, false, false, false, false, false, false, false] (by kernel_rfl) rfl rfl ⟨(blk_cell BK133.out 0).trans rfl, (blk_cell BK133.out 1).trans rfl, (blk_cell BK133.out 2).trans rfl, (blk_cell BK133.out 3).trans rfl⟩ (fun hHeld => ?_); refine with_tabW recantref05_First.tab4 recantref05_First.bits4 (fun HT_ HW_ => ?_)
                generalize w18.drew = w19 at BK133 HB HR137 hHeld ⊢
                refine pure_ (i := 0) (N := some 12) (v := ?_) (a' := ?_) #[true, false, false, false, false, false, false, false, false, false] rfl rfl (any_of HT_.out (by kernel_rfl)) (fun _ _ _ h => h) (Or.inl ⟨by rfl, ?_⟩) ?_ ?_
                rotate_left
                · intro w'
                  go_simp
                  with_reducible rfl
                rotate_left
                · simp only [Act.put, List.setIfInBounds_toArray, List.set_cons_zero, List.set_cons_succ, i64_w, i32_w]
                  rfl
                refine pure_ (i := 1) (N := some 13) (v := ?_) (a' := ?_) #[true, true, false, false, false, false, false, false, false, false] rfl rfl (any_of HT_.out (by kernel_rfl)) (fun _ _ _ h => h) (Or.inl ⟨by rfl, ?_⟩) ?_ ?_
                rotate_left
                · intro w'
                  go_simp
                  with_reducible rfl
                rotate_left
                · simp only [Act.put, List.setIfInBounds_toArray, List.set_cons_zero, List.set_cons_succ, i64_w, i32_w]
                  rfl
                refine pure_ (i := 2) (N := some 14) (v := ?_) (a' := ?_) #[true, true, true, false, false, false, false, false, false, false] rfl rfl (any_of HT_.out (by kernel_rfl)) (fun _ _ _ h => h) (Or.inl ⟨by rfl, ?_⟩) ?_ ?_
                rotate_left
                · intro w'
                  go_simp
                  with_reducible rfl
                rotate_left
                · simp only [Act.put, List.setIfInBounds_toArray, List.set_cons_zero, List.set_cons_succ, i64_w, i32_w]
                  rfl
                refine pure_ (i := 3) (N := some 15) (v := ?_) (a' := ?_) #[true, true, true, true, false, false, false, false, false, false] rfl rfl (any_of HT_.out (by kernel_rfl)) (fun _ _ _ h => h) (Or.inl ⟨by rfl, ?_⟩) ?_ ?_
                rotate_left
                · intro w'
                  go_simp
                  with_reducible rfl
                rotate_left
                · simp only [Act.put, List.setIfInBounds_toArray, List.set_cons_zero, List.set_cons_succ, i64_w, i32_w]
                  rfl
                refine pure_ (i := 6) (N := some 18) (v := ?_) (a' := ?_) #[true, true, true, true, false, false, true, false, false, false] rfl rfl (any_of HT_.out (by kernel_rfl)) (fun _ _ _ h => h) (Or.inl ⟨by rfl, ?_⟩) ?_ ?_
                rotate_left
                · intro w'
                  go_simp
                  with_reducible rfl
                rotate_left
                · simp only [Act.put, List.setIfInBounds_toArray, List.set_cons_zero, List.set_cons_succ, i64_w, i32_w]
                  rfl
                refine take_ (i := 4) (N := some 16) (v := ?_) (a' := ?_) #[true, true, true, true, true, false, true, false, false, false] rfl rfl (take_ofW HT_.out HW_.out (by kernel_rfl)) (fun _ _ _ h => h) (Or.inl ⟨by rfl, ?_⟩) hHeld ?_ ?_
                rotate_left
                · rintro w' ⟨s0, s1, s2, s3⟩
                  go_simp
                  with_reducible rfl
                rotate_left
                · simp only [Act.put, List.setIfInBounds_toArray, List.set_cons_zero, List.set_cons_succ, i64_w, i32_w]
                  rfl
                refine take_ (i := 7) (N := some 19) (v := ?_) (a' := ?_) #[true, true, true, true, true, false, true, true, false, false] rfl rfl (take_ofW HT_.out HW_.out (by kernel_rfl)) (fun _ _ _ h => h) (Or.inl ⟨by rfl, ?_⟩) hHeld ?_ ?_
                rotate_left
                · rintro w' ⟨s0, s1, s2, s3⟩
                  go_simp
                  with_reducible rfl
                rotate_left
                · simp only [Act.put, List.setIfInBounds_toArray, List.set_cons_zero, List.set_cons_succ, i64_w, i32_w]
                  rfl
                refine one_ (i := 5) (N := some 17) #[true, true, true, true, true, true, true, true, false, false] rfl rfl (one_of HT_.out (by kernel_rfl)) (by decide) (fun K hK => ?_)
                refine goes_ Tryd.func77 (by kernel_rfl) rfl #[.slice (some ad132) y134.length c0, .int .i64 ((rd_T36 l0 x7_1).f1)] (by rfl) rfl rfl (by (try simp only [List.map_toArray, List.map_cons, List.map_nil]); first | done | rfl | (simp only [List.length_drop, List.length_take]; rfl)) ?_
                with_reducible refine (recantref05_Last.calls k1 _ _ y134 ((rd_T36 l0 x7_1).f1) t138 _ ?side1 ?side2 A7.out).mono ?_
                (case side1 => repeat (first | exact (Kd.C_below HR137.out HB.out) | (with_reducible refine Kd.C_alloc ?_ _) | (with_reducible refine Kd.C_drewN ?_ _) | (with_reducible refine Kd.C_drew ?_)))
                (case side2 => exact HC137.out)
                rintro e w21 ⟨rfl, hb⟩
                refine ⟨_, rfl, ?_⟩
                have n0_ := Aside0.mk (blk_below (g := gb133) (o := .cells #[.int .i64 ((rd_T36 l0 x7_1).f0), .int .i64 ((rd_T36 l0 x7_1).f1), .int .i64 ((rd_T36 l0 x7_1).f2), .int .i64 ((rd_T36 l0 x7_1).f3)] 36 (0, 0)) (by (with_reducible repeat (first | refine blk_drewN ?_ _ | refine blk_drew ?_ | refine blk_alloc ?_ _)); exact BK133.out) hb)
                have n1_ := Aside0.mk (below_step (by repeat (first | (with_reducible first | exact HB.out | apply below_alloc | apply pw_below_drewN | apply below_drew1 | refine below_set ?_ GE133.out) | exact HB.out)) hb)
                clear BK133
                clear HB
                have BK133 := n0_
                have HB := n1_
                clear n0_ n1_
                (try clear hb)
                (try clear hb2)
                (try clear hk)
                (try clear hi)
                refine hK.out _ _ ⟨(blk_cell BK133.out 0).trans rfl, (blk_cell BK133.out 1).trans rfl, (blk_cell BK133.out 2).trans rfl, (blk_cell BK133.out 3).trans rfl⟩ (fun hHeld => ?_)
                clear hK K
                refine norm_ (a' := ?_) ?_ ?_
                rotate_left
                · show Act.put _ (some 17) _ = _
                  simp only [Act.put, List.setIfInBounds_toArray, List.set_cons_zero, List.set_cons_succ, i64_w, i32_w]
                  rfl
                refine one_ (i := 8) (N := some 20) #[true, true, true, true, true, true, true, true, true, false] rfl rfl (one_of HT_.out (by kernel_rfl)) (by decide) (fun K hK => ?_)
                refine goes_ Tryd.func120 (by kernel_rfl) rfl #[.int .i64 t138, .int .i64 ((rd_T36 l0 x7_1).f0)] (by rfl) rfl rfl (by (try simp only [List.map_toArray, List.map_cons, List.map_nil]); first | done | rfl | (simp only [List.length_drop, List.length_take]; rfl)) ?_
                with_reducible refine (recantref05_May.calls k1 t138 ((rd_T36 l0 x7_1).f0) false _ A8.out).mono ?_
                rintro e w' ⟨rfl, ⟨nd, rfl⟩⟩
                refine ⟨_, rfl, ?_⟩
                refine hK.out _ _ ⟨(blk_cell BK133.out 0).trans rfl, (blk_cell BK133.out 1).trans rfl, (blk_cell BK133.out 2).trans rfl, (blk_cell BK133.out 3).trans rfl⟩ (fun hHeld => ?_)
                clear hK K
                refine norm_ (a' := ?_) ?_ ?_
                rotate_left
                · show Act.put _ (some 20) _ = _
                  simp only [Act.put, List.setIfInBounds_toArray, List.set_cons_zero, List.set_cons_succ, i64_w, i32_w]
                  rfl
                refine pure_ (i := 9) (N := some 21) (v := ?_) (a' := ?_) #[true, true, true, true, true, true, true, true, true, true] rfl rfl (any_of HT_.out (by kernel_rfl)) (fun _ _ _ h => h) (Or.inl ⟨by rfl, ?_⟩) ?_ ?_
                rotate_left
                · intro w'
                  go_simp
                  with_reducible rfl
                rotate_left
                · simp only [Act.put, List.setIfInBounds_toArray, List.set_cons_zero, List.set_cons_succ, i64_w, i32_w]
                  rfl
                refine done_ (done_of HT_.out (by kernel_rfl)) ?_
                try go_wp2
                go_ret
                exact ⟨by first | rfl | (simp [errW_none, errW_some] <;> rfl) | (simp [*, errW_none, errW_some] <;> rfl), by repeat (first | (with_reducible first | exact HB.out | apply below_alloc | apply pw_below_drewN | apply below_drew1 | refine below_set ?_ GE133.out) | exact HB.out)⟩
            · rw [if_neg c6] at H
              exact absurd H (by simp)
          · rw [if_neg c4] at H
            exact absurd H (by simp)
        · rw [if_neg c3] at H
          exact absurd H (by simp)
      · rw [if_neg c2] at H
        have c2b0 : decide (x7_1 < (l0.length : Int)) = false := decide_eq_false c2
        clear c2
        obtain rfl := Option.some.inj H
        go_wp2
        go_ret
        exact ⟨by first | rfl | (simp [errW_none, errW_some] <;> rfl) | (simp [*, errW_none, errW_some] <;> rfl), by repeat (first | (with_reducible first | exact HB.out | apply below_alloc | apply pw_below_drewN | apply below_drew1) | exact HB.out)⟩

/-! ### recantref05_Why: function 19 -/
def recantref05_Why.f (k : Nat) (l0 : List (S36)) : Option (Int) := (recantref02_Right.f k l0).bind fun t140 => (if t140 = true then ((recantref05_First.f k l0).bind fun t141 => (if t141 < (l0.length : Int) then (some 6) else (some 0))) else (some 1))
theorem recantref05_Why.mono : ∀ a0 k, LeO (recantref05_Why.f k a0) (recantref05_Why.f (k + 1) a0) := by
  intro a0 k
  unfold recantref05_Why.f
  repeat' first
      | (with_reducible exact recantref02_Right.mono _ _)
      | (with_reducible exact recantref05_First.mono _ _)
      | (with_reducible exact LeO.refl _)
      | (with_reducible exact LeO.none _)
      | (with_reducible refine LeO.ite ?_ ?_)
      | (with_reducible refine LeO.bind ?_ (fun _ => ?_))
      | exact recantref02_Right.mono _ _
      | exact recantref05_First.mono _ _
      | exact LeO.none _
      | refine LeO.ite ?_ ?_
      | refine LeO.bind ?_ (fun _ => ?_)
set_option maxHeartbeats 8000000 in
set_option maxRecDepth 100000 in
theorem recantref05_Why.calls (k : Nat) (A0 : Option Addr) (c0 : Nat) (l0 : List (S36)) (r : Int) (w : World) (hr0 : Kd.C k36 w A0 l0.length l0) (hc0 : l0.length ≤ c0) (h : recantref05_Why.f k l0 = some r) :
    Calls Tryd.prog 19 #[.slice A0 l0.length c0] w fun e w' => e = .returned (.int .i64 r) ∧ Below w.heap.size w w' := by
  have HR0 := Aside0.mk hr0
  have HC0 := Aside0.mk hc0
  clear hr0 hc0
  have HB := Aside0.mk (Below.refl w.heap.size w)
  have H : ((recantref02_Right.f k l0).bind fun t140 => (if t140 = true then ((recantref05_First.f k l0).bind fun t141 => (if t141 < (l0.length : Int) then (some 6) else (some 0))) else (some 1))) = some r := h
  clear h
  replace H := Option.bind_eq_some_iff.mp H
  obtain ⟨t140, A20, H⟩ := H
  replace H : (if t140 = true then ((recantref05_First.f k l0).bind fun t141 => (if t141 < (l0.length : Int) then (some 6) else (some 0))) else (some 1)) = some r := H
  have A2 := Aside0.mk A20
  clear A20
  by_cases c3 : t140 = true
  · subst c3
    have H1 : ((recantref05_First.f k l0).bind fun t141 => (if t141 < (l0.length : Int) then (some 6) else (some 0))) = some r := by rw [if_pos rfl] at H; exact H
    clear H
    have H := H1
    clear H1
    replace H := Option.bind_eq_some_iff.mp H
    obtain ⟨t141, A40, H⟩ := H
    replace H : (if t141 < (l0.length : Int) then (some 6) else (some 0)) = some r := H
    have A4 := Aside0.mk A40
    clear A40
    by_cases c5 : t141 < (l0.length : Int)
    · rw [if_pos c5] at H
      have c5b0 : decide (t141 < (l0.length : Int)) = true := decide_eq_true c5
      clear c5
      obtain rfl := Option.some.inj H
      go_enter Tryd.func19, Tryd.ntmps19
      go_wp2_with (first | ((with_reducible refine gate_callee (f := 73) rfl ?_); refine goesL_ (some 4) rfl rfl Tryd.func73 (by kernel_rfl) rfl #[.slice A0 l0.length c0] rfl (by (try simp only [List.map_toArray, List.map_cons, List.map_nil]); first | done | rfl | (simp only [List.length_drop, List.length_take]; rfl)) ?_; (with_reducible refine (recantref02_Right.calls k _ _ l0 true _ ?side1 ?side2 A2.out).mono ?_); (case side1 => repeat (first | exact HR0.out | (with_reducible refine Kd.C_alloc ?_ _) | (with_reducible refine Kd.C_drewN ?_ _) | (with_reducible refine Kd.C_drew ?_))); (case side2 => exact HC0.out); rintro e w6 ⟨rfl, hb⟩; refine ⟨_, rfl, ?_⟩; have n0_ := Aside0.mk (below_step (by repeat (first | (with_reducible first | exact HB.out | apply below_alloc | apply pw_below_drewN | apply below_drew1) | exact HB.out)) hb); clear HB; have HB := n0_; clear n0_; (try clear hb); (try clear hb2); (try clear hk); (try clear hi)) | ((with_reducible refine gate_callee (f := 74) rfl ?_); refine goesL_ (some 7) rfl rfl Tryd.func74 (by kernel_rfl) rfl #[.slice A0 l0.length c0] rfl (by (try simp only [List.map_toArray, List.map_cons, List.map_nil]); first | done | rfl | (simp only [List.length_drop, List.length_take]; rfl)) ?_; (with_reducible refine (recantref05_First.calls k _ _ l0 t141 _ ?side1 ?side2 A4.out).mono ?_); (case side1 => repeat (first | exact (Kd.C_below HR0.out HB.out) | (with_reducible refine Kd.C_alloc ?_ _) | (with_reducible refine Kd.C_drewN ?_ _) | (with_reducible refine Kd.C_drew ?_))); (case side2 => exact HC0.out); rintro e w7 ⟨rfl, hb⟩; refine ⟨_, rfl, ?_⟩; have n0_ := Aside0.mk (below_step (by repeat (first | (with_reducible first | exact HB.out | apply below_alloc | apply pw_below_drewN | apply below_drew1) | exact HB.out)) hb); clear HB; have HB := n0_; clear n0_; (try clear hb); (try clear hb2); (try clear hk); (try clear hi)))
      go_ret
      exact ⟨by first | rfl | (simp [errW_none, errW_some] <;> rfl) | (simp [*, errW_none, errW_some] <;> rfl), by repeat (first | (with_reducible first | exact HB.out | apply below_alloc | apply pw_below_drewN | apply below_drew1) | exact HB.out)⟩
    · rw [if_neg c5] at H
      have c5b0 : decide (t141 < (l0.length : Int)) = false := decide_eq_false c5
      clear c5
      obtain rfl := Option.some.inj H
      go_enter Tryd.func19, Tryd.ntmps19
      go_wp2_with (first | ((with_reducible refine gate_callee (f := 73) rfl ?_); refine goesL_ (some 4) rfl rfl Tryd.func73 (by kernel_rfl) rfl #[.slice A0 l0.length c0] rfl (by (try simp only [List.map_toArray, List.map_cons, List.map_nil]); first | done | rfl | (simp only [List.length_drop, List.length_take]; rfl)) ?_; (with_reducible refine (recantref02_Right.calls k _ _ l0 true _ ?side1 ?side2 A2.out).mono ?_); (case side1 => repeat (first | exact HR0.out | (with_reducible refine Kd.C_alloc ?_ _) | (with_reducible refine Kd.C_drewN ?_ _) | (with_reducible refine Kd.C_drew ?_))); (case side2 => exact HC0.out); rintro e w8 ⟨rfl, hb⟩; refine ⟨_, rfl, ?_⟩; have n0_ := Aside0.mk (below_step (by repeat (first | (with_reducible first | exact HB.out | apply below_alloc | apply pw_below_drewN | apply below_drew1) | exact HB.out)) hb); clear HB; have HB := n0_; clear n0_; (try clear hb); (try clear hb2); (try clear hk); (try clear hi)) | ((with_reducible refine gate_callee (f := 74) rfl ?_); refine goesL_ (some 7) rfl rfl Tryd.func74 (by kernel_rfl) rfl #[.slice A0 l0.length c0] rfl (by (try simp only [List.map_toArray, List.map_cons, List.map_nil]); first | done | rfl | (simp only [List.length_drop, List.length_take]; rfl)) ?_; (with_reducible refine (recantref05_First.calls k _ _ l0 t141 _ ?side1 ?side2 A4.out).mono ?_); (case side1 => repeat (first | exact (Kd.C_below HR0.out HB.out) | (with_reducible refine Kd.C_alloc ?_ _) | (with_reducible refine Kd.C_drewN ?_ _) | (with_reducible refine Kd.C_drew ?_))); (case side2 => exact HC0.out); rintro e w9 ⟨rfl, hb⟩; refine ⟨_, rfl, ?_⟩; have n0_ := Aside0.mk (below_step (by repeat (first | (with_reducible first | exact HB.out | apply below_alloc | apply pw_below_drewN | apply below_drew1) | exact HB.out)) hb); clear HB; have HB := n0_; clear n0_; (try clear hb); (try clear hb2); (try clear hk); (try clear hi)))
      go_ret
      exact ⟨by first | rfl | (simp [errW_none, errW_some] <;> rfl) | (simp [*, errW_none, errW_some] <;> rfl), by repeat (first | (with_reducible first | exact HB.out | apply below_alloc | apply pw_below_drewN | apply below_drew1) | exact HB.out)⟩
  · replace c3 := Bool.eq_false_iff.mpr c3
    subst c3
    have H1 : (some 1) = some r := by rw [if_neg (show ¬ (false = true) by decide)] at H; exact H
    clear H
    have H := H1
    clear H1
    obtain rfl := Option.some.inj H
    go_enter Tryd.func19, Tryd.ntmps19
    go_wp2_with (first | ((with_reducible refine gate_callee (f := 73) rfl ?_); refine goesL_ (some 4) rfl rfl Tryd.func73 (by kernel_rfl) rfl #[.slice A0 l0.length c0] rfl (by (try simp only [List.map_toArray, List.map_cons, List.map_nil]); first | done | rfl | (simp only [List.length_drop, List.length_take]; rfl)) ?_; (with_reducible refine (recantref02_Right.calls k _ _ l0 false _ ?side1 ?side2 A2.out).mono ?_); (case side1 => repeat (first | exact HR0.out | (with_reducible refine Kd.C_alloc ?_ _) | (with_reducible refine Kd.C_drewN ?_ _) | (with_reducible refine Kd.C_drew ?_))); (case side2 => exact HC0.out); rintro e w10 ⟨rfl, hb⟩; refine ⟨_, rfl, ?_⟩; have n0_ := Aside0.mk (below_step (by repeat (first | (with_reducible first | exact HB.out | apply below_alloc | apply pw_below_drewN | apply below_drew1) | exact HB.out)) hb); clear HB; have HB := n0_; clear n0_; (try clear hb); (try clear hb2); (try clear hk); (try clear hi)))
    go_ret
    exact ⟨by first | rfl | (simp [errW_none, errW_some] <;> rfl) | (simp [*, errW_none, errW_some] <;> rfl), by repeat (first | (with_reducible first | exact HB.out | apply below_alloc | apply pw_below_drewN | apply below_drew1) | exact HB.out)⟩

/-! ### recantlaw06_alive: function 20 -/
def recantlaw06_alive.f  : Option (Bool) := (table_Table.f (([(⟨0, 1, 0, 0⟩ : S36), (⟨1, 1, 0, 0⟩ : S36), (⟨2, 1, 2, 0⟩ : S36), (⟨3, 1, 0, 5⟩ : S36)] : List (S36)))).bind fun bt145 => (if bt145.2 = 0 then (if (bt145.1.length : Int) = 1 then (if 0 < (bt145.1.length : Int) then (if ((rd_T34 bt145.1 0).f2) = 3 then (if (((rd_T34 bt145.1 0).f4).length : Int) = 1 then (if 0 < (((rd_T34 bt145.1 0).f4).length : Int) then (some (!((rd_T52 ((rd_T34 bt145.1 0).f4) 0).f0) && (((rd_T52 ((rd_T34 bt145.1 0).f4) 0).f1) == 2 && (((rd_T52 ((rd_T34 bt145.1 0).f4) 0).f2) == 5)))) else (none)) else (some false)) else (some false)) else (none)) else (some false)) else (some false))
set_option maxHeartbeats 8000000 in
set_option maxRecDepth 100000 in
theorem recantlaw06_alive.calls  (r : Bool) (w : World) (h : recantlaw06_alive.f  = some r) (hT : KTab w) :
    Calls Tryd.prog 20 #[] w fun e w' => e = .returned (.bool r) ∧ Below w.heap.size w w' := by
  have HTAB := Aside0.mk hT
  clear hT
  have hu36 := Tryd.underlying36
  have hu52 := Tryd.underlying52
  have HB := Aside0.mk (Below.refl w.heap.size w)
  have H : ((table_Table.f (([(⟨0, 1, 0, 0⟩ : S36), (⟨1, 1, 0, 0⟩ : S36), (⟨2, 1, 2, 0⟩ : S36), (⟨3, 1, 0, 5⟩ : S36)] : List (S36)))).bind fun bt145 => (if bt145.2 = 0 then (if (bt145.1.length : Int) = 1 then (if 0 < (bt145.1.length : Int) then (if ((rd_T34 bt145.1 0).f2) = 3 then (if (((rd_T34 bt145.1 0).f4).length : Int) = 1 then (if 0 < (((rd_T34 bt145.1 0).f4).length : Int) then (some (!((rd_T52 ((rd_T34 bt145.1 0).f4) 0).f0) && (((rd_T52 ((rd_T34 bt145.1 0).f4) 0).f1) == 2 && (((rd_T52 ((rd_T34 bt145.1 0).f4) 0).f2) == 5)))) else (none)) else (some false)) else (some false)) else (none)) else (some false)) else (some false))) = some r := h
  clear h
  obtain ⟨y142, hy142⟩ : ∃ y_ : List (S36), y_ = (([(⟨0, 1, 0, 0⟩ : S36), (⟨1, 1, 0, 0⟩ : S36), (⟨2, 1, 2, 0⟩ : S36), (⟨3, 1, 0, 5⟩ : S36)] : List (S36))) := ⟨_, rfl⟩
  replace H : ((table_Table.f y142).bind fun bt145 => (if bt145.2 = 0 then (if (bt145.1.length : Int) = 1 then (if 0 < (bt145.1.length : Int) then (if ((rd_T34 bt145.1 0).f2) = 3 then (if (((rd_T34 bt145.1 0).f4).length : Int) = 1 then (if 0 < (((rd_T34 bt145.1 0).f4).length : Int) then (some (!((rd_T52 ((rd_T34 bt145.1 0).f4) 0).f0) && (((rd_T52 ((rd_T34 bt145.1 0).f4) 0).f1) == 2 && (((rd_T52 ((rd_T34 bt145.1 0).f4) 0).f2) == 5)))) else (none)) else (some false)) else (some false)) else (none)) else (some false)) else (some false))) = some r := by first | (rw [hy142]; with_reducible exact H) | (have H2_ := (Option.bind_some _ _).symm.trans H; rw [hy142]; with_reducible exact H2_) | (have H2_ := (Option.bind_some _ _).symm.trans H; with_reducible exact H2_) | with_reducible exact H | (rw [hy142]; exact H) | exact H
  have Ny142 := Aside0.mk hy142
  clear hy142
  replace H := Option.bind_eq_some_iff.mp H
  obtain ⟨⟨t145, t146⟩, A10, H⟩ := H
  replace H : (if t146 = 0 then (if (t145.length : Int) = 1 then (if 0 < (t145.length : Int) then (if ((rd_T34 t145 0).f2) = 3 then (if (((rd_T34 t145 0).f4).length : Int) = 1 then (if 0 < (((rd_T34 t145 0).f4).length : Int) then (some (!((rd_T52 ((rd_T34 t145 0).f4) 0).f0) && (((rd_T52 ((rd_T34 t145 0).f4) 0).f1) == 2 && (((rd_T52 ((rd_T34 t145 0).f4) 0).f2) == 5)))) else (none)) else (some false)) else (some false)) else (none)) else (some false)) else (some false)) = some r := H
  have A1 := Aside0.mk A10
  clear A10
  by_cases c2 : t146 = 0
  · rw [if_pos c2] at H
    have c2b0 : (t146 == 0) = true := beq_iff_eq.mpr c2
    have c2b1 : (t146 != 0) = false := bne_eq_false_iff_eq.mpr c2
    clear c2
    by_cases c3 : (t145.length : Int) = 1
    · rw [if_pos c3] at H
      have c3b0 : ((t145.length : Int) == 1) = true := beq_iff_eq.mpr c3
      have c3b1 : ((t145.length : Int) != 1) = false := bne_eq_false_iff_eq.mpr c3
      clear c3
      by_cases c4 : 0 < (t145.length : Int)
      · rw [if_pos c4] at H
        have c4b0 : decide (0 < (t145.length : Int)) = true := decide_eq_true c4
        have c4b1 : decide (0 < t145.length) = true := decide_eq_true (by omega)
        clear c4
        by_cases c5 : ((rd_T34 t145 0).f2) = 3
        · rw [if_pos c5] at H
          have c5b0 : (((rd_T34 t145 0).f2) == 3) = true := beq_iff_eq.mpr c5
          have c5b1 : (((rd_T34 t145 0).f2) != 3) = false := bne_eq_false_iff_eq.mpr c5
          clear c5
          by_cases c6 : (((rd_T34 t145 0).f4).length : Int) = 1
          · rw [if_pos c6] at H
            have c6b0 : ((((rd_T34 t145 0).f4).length : Int) == 1) = true := beq_iff_eq.mpr c6
            have c6b1 : ((((rd_T34 t145 0).f4).length : Int) != 1) = false := bne_eq_false_iff_eq.mpr c6
            clear c6
            by_cases c7 : 0 < (((rd_T34 t145 0).f4).length : Int)
            · rw [if_pos c7] at H
              have c7b0 : decide (0 < (((rd_T34 t145 0).f4).length : Int)) = true := decide_eq_true c7
              have c7b1 : decide (0 < ((rd_T34 t145 0).f4).length) = true := decide_eq_true (by omega)
              clear c7
              obtain rfl := Option.some.inj H
              go_enter Tryd.func20, Tryd.ntmps20
              go_wp2_with (first | ((with_reducible refine gate_dst (N := 8) rfl ?_); (try (refine gate_guard (by rfl) ?_; dsimp only)); refine Kd.R_lit k36 _ 36 ?hg (N := 8) ?hd (xs := ([(⟨0, 1, 0, 0⟩ : S36), (⟨1, 1, 0, 0⟩ : S36), (⟨2, 1, 2, 0⟩ : S36), (⟨3, 1, 0, 5⟩ : S36)] : List (S36))) (inner := [.int .i64 0, .int .i64 1, .int .i64 0, .int .i64 0, .int .i64 1, .int .i64 1, .int .i64 0, .int .i64 0, .int .i64 2, .int .i64 1, .int .i64 2, .int .i64 0, .int .i64 3, .int .i64 1, .int .i64 0, .int .i64 5]) (ok := fun _ => True) (okp := fun _ => True) ?hr ?hp (fun _ hk => hk) trivial (Below.refl _ _) (Nat.le_refl _) (by simp) ?_; (case hd => rfl); (case hg => rfl); (case hr => first | (go_simp; done) | (go_simp; rfl)); (case hp => exact (Reps.c4 (show Kd.M k36 _ _ _ (⟨0, 1, 0, 0⟩ : S36) [.int .i64 0, .int .i64 1, .int .i64 0, .int .i64 0] from (k36_mkM _ _ _ (⟨0, 1, 0, 0⟩ : S36) )) (Reps.c4 (show Kd.M k36 _ _ _ (⟨1, 1, 0, 0⟩ : S36) [.int .i64 1, .int .i64 1, .int .i64 0, .int .i64 0] from (k36_mkM _ _ _ (⟨1, 1, 0, 0⟩ : S36) )) (Reps.c4 (show Kd.M k36 _ _ _ (⟨2, 1, 2, 0⟩ : S36) [.int .i64 2, .int .i64 1, .int .i64 2, .int .i64 0] from (k36_mkM _ _ _ (⟨2, 1, 2, 0⟩ : S36) )) (Reps.c4 (show Kd.M k36 _ _ _ (⟨3, 1, 0, 5⟩ : S36) [.int .i64 3, .int .i64 1, .int .i64 0, .int .i64 5] from (k36_mkM _ _ _ (⟨3, 1, 0, 5⟩ : S36) )) (Reps.none _ _)))))); intro v143 w8 ho9 hb hg_ hnew_; clear hg_ hnew_; (first | rw [← Ny142.out] at ho9 | (simp only [Int.reduceToNat] at ho9; rw [← Ny142.out] at ho9)); have n0_ := Aside0.mk (Kd.R_lower ho9 (below_size (by repeat (first | (with_reducible first | exact HB.out | apply below_alloc | apply pw_below_drewN | apply below_drew1) | exact HB.out)))); have n1_ := Aside0.mk (below_step (by repeat (first | (with_reducible first | exact HB.out | apply below_alloc | apply pw_below_drewN | apply below_drew1) | exact HB.out)) hb); clear HB; have HO144 := n0_; have HB := n1_; clear n0_ n1_; clear hb ho9; obtain ⟨Ao10, co10, eo10⟩ := Kd.R_slice HO144.out; subst eo10) | ((with_reducible refine gate_callee (f := 18) rfl ?_); refine goesL_ (some 9) rfl rfl Tryd.func18 (by kernel_rfl) rfl #[.slice Ao10 y142.length co10] rfl (by (try simp only [List.map_toArray, List.map_cons, List.map_nil]); first | done | rfl | (simp only [List.length_drop, List.length_take]; rfl)) ?_; (with_reducible refine (table_Table.calls _ _ y142 t145 t146 _ ?side1 ?side2 A1.out (KTab.below HTAB.out (by repeat (first | (with_reducible first | exact HB.out | apply below_alloc | apply pw_below_drewN | apply below_drew1) | exact HB.out)))).mono ?_); (case side1 => repeat (first | exact (Kd.R_reads' HO144.out).2.2 | (with_reducible refine Kd.C_alloc ?_ _) | (with_reducible refine Kd.C_drewN ?_ _) | (with_reducible refine Kd.C_drew ?_))); (case side2 => exact (Kd.R_reads' HO144.out).2.1); rintro e w11 ⟨v147, rfl, ho0, hb⟩; refine ⟨_, rfl, ?_⟩; have n0_ := Aside0.mk (Kd.R_below (by (with_reducible repeat (first | apply Kd.R_alloc | apply Kd.R_drewN | apply Kd.R_drew)); exact HO144.out) hb); have n1_ := Aside0.mk (Kd.S_lower ho0 (below_size (by repeat (first | (with_reducible first | exact HB.out | apply below_alloc | apply pw_below_drewN | apply below_drew1) | exact HB.out)))); have n2_ := Aside0.mk (below_step (by repeat (first | (with_reducible first | exact HB.out | apply below_alloc | apply pw_below_drewN | apply below_drew1) | exact HB.out)) hb); clear HO144; clear HB; have HO144 := n0_; have HO148 := n1_; have HB := n2_; clear n0_ n1_ n2_; (try clear hb); (try clear hb2); (try clear hk); (try clear hi); (try clear ho0); obtain ⟨Ao12, co12, eo12⟩ := Kd.S_slice HO148.out; subst eo12; have p149 : 0 ≤ (0 : Int) := (by omega); have q149 : 0 < (t145.length : Int) := of_decide_eq_true (by first | (with_reducible assumption) | assumption); obtain ⟨ad149, A149_4, c149_4, e149, hx149_0, hx149_1, hx149_2, hx149_3, hx149_4, hl149_4, hi149_4⟩ := at_T34 (Kd.S_reads' HO148.out).2.2 0 p149 q149; cases e149; obtain ⟨ce149, hce149, hMe149, hcc149⟩ := Kd.S_get HO148.out z34 0 p149 (by first | exact q149 | exact of_decide_eq_true (by first | (with_reducible assumption) | assumption) | (have e_ := (Kd.S_reads' HO148.out).1; omega)); obtain ⟨ve149_4, rfl, ge149_4⟩ := k34_openM hMe149; have hv149_4 := hcc149 4 _ rfl; rw [add_field _ _ 4 (by omega)] at hv149_4; replace hv149_4 := Option.some.inj (hv149_4.symm.trans hx149_4); rw [hv149_4] at ge149_4; have HL149_4 := Aside0.mk (show Kd.R k52 52 _ _ _ _ ((rd_T34 t145 0).f4) from ge149_4); clear hv149_4 ge149_4; clear hcc149 hce149; have qi149 : (0 < t145.length) = True := eq_true (by omega); (try rw [show ((0 : Int)).toNat = 0 from rfl] at hx149_0); (try rw [show 0 * 5 = 0 from rfl] at hx149_0); (try rw [Addr.add_zero'] at hx149_0); (try rw [show ((0 : Int)).toNat = 0 from rfl] at hx149_1); (try rw [show 0 * 5 = 0 from rfl] at hx149_1); (try rw [Addr.add_zero'] at hx149_1); (try rw [show ((0 : Int)).toNat = 0 from rfl] at hx149_2); (try rw [show 0 * 5 = 0 from rfl] at hx149_2); (try rw [Addr.add_zero'] at hx149_2); (try rw [show ((0 : Int)).toNat = 0 from rfl] at hx149_3); (try rw [show 0 * 5 = 0 from rfl] at hx149_3); (try rw [Addr.add_zero'] at hx149_3); (try rw [show ((0 : Int)).toNat = 0 from rfl] at hx149_4); (try rw [show 0 * 5 = 0 from rfl] at hx149_4); (try rw [Addr.add_zero'] at hx149_4); have HR149_4 := Aside0.mk hi149_4; have HC149_4 := Aside0.mk hl149_4; clear hi149_4 hl149_4; replace p149 := eq_true p149; replace q149 := eq_true q149; have p150 : 0 ≤ (0 : Int) := (by omega); have q150 : 0 < (t145.length : Int) := of_decide_eq_true (by first | (with_reducible assumption) | assumption); obtain ⟨ad150, A150_4, c150_4, e150, hx150_0, hx150_1, hx150_2, hx150_3, hx150_4, hl150_4, hi150_4⟩ := at_T34 (Kd.S_reads' HO148.out).2.2 0 p150 q150; obtain rfl : ad149 = ad150 := (by injection e150); obtain ⟨ce150, hce150, hMe150, hcc150⟩ := Kd.S_get HO148.out z34 0 p150 (by first | exact q150 | exact of_decide_eq_true (by first | (with_reducible assumption) | assumption) | (have e_ := (Kd.S_reads' HO148.out).1; omega)); obtain ⟨ve150_4, rfl, ge150_4⟩ := k34_openM hMe150; have hv150_4 := hcc150 4 _ rfl; rw [add_field _ _ 4 (by omega)] at hv150_4; replace hv150_4 := Option.some.inj (hv150_4.symm.trans hx150_4); rw [hv150_4] at ge150_4; have HL150_4 := Aside0.mk (show Kd.R k52 52 _ _ _ _ ((rd_T34 t145 0).f4) from ge150_4); clear hv150_4 ge150_4; clear hcc150 hce150; have qi150 : (0 < t145.length) = True := eq_true (by omega); (try rw [show ((0 : Int)).toNat = 0 from rfl] at hx150_0); (try rw [show 0 * 5 = 0 from rfl] at hx150_0); (try rw [Addr.add_zero'] at hx150_0); (try rw [show ((0 : Int)).toNat = 0 from rfl] at hx150_1); (try rw [show 0 * 5 = 0 from rfl] at hx150_1); (try rw [Addr.add_zero'] at hx150_1); (try rw [show ((0 : Int)).toNat = 0 from rfl] at hx150_2); (try rw [show 0 * 5 = 0 from rfl] at hx150_2); (try rw [Addr.add_zero'] at hx150_2); (try rw [show ((0 : Int)).toNat = 0 from rfl] at hx150_3); (try rw [show 0 * 5 = 0 from rfl] at hx150_3); (try rw [Addr.add_zero'] at hx150_3); (try rw [show ((0 : Int)).toNat = 0 from rfl] at hx150_4); (try rw [show 0 * 5 = 0 from rfl] at hx150_4); (try rw [Addr.add_zero'] at hx150_4); have HR150_4 := Aside0.mk hi150_4; have HC150_4 := Aside0.mk hl150_4; clear hi150_4 hl150_4; replace p150 := eq_true p150; replace q150 := eq_true q150; have ea_ := Option.some.inj (hx149_4.symm.trans hx150_4); injection ea_ with ea_ en_ ec_; subst ea_; subst ec_; clear en_; have p151 : 0 ≤ (0 : Int) := (by omega); have q151 : 0 < (t145.length : Int) := of_decide_eq_true (by first | (with_reducible assumption) | assumption); obtain ⟨ad151, A151_4, c151_4, e151, hx151_0, hx151_1, hx151_2, hx151_3, hx151_4, hl151_4, hi151_4⟩ := at_T34 (Kd.S_reads' HO148.out).2.2 0 p151 q151; obtain rfl : ad149 = ad151 := (by injection e151); obtain ⟨ce151, hce151, hMe151, hcc151⟩ := Kd.S_get HO148.out z34 0 p151 (by first | exact q151 | exact of_decide_eq_true (by first | (with_reducible assumption) | assumption) | (have e_ := (Kd.S_reads' HO148.out).1; omega)); obtain ⟨ve151_4, rfl, ge151_4⟩ := k34_openM hMe151; have hv151_4 := hcc151 4 _ rfl; rw [add_field _ _ 4 (by omega)] at hv151_4; replace hv151_4 := Option.some.inj (hv151_4.symm.trans hx151_4); rw [hv151_4] at ge151_4; have HL151_4 := Aside0.mk (show Kd.R k52 52 _ _ _ _ ((rd_T34 t145 0).f4) from ge151_4); clear hv151_4 ge151_4; clear hcc151 hce151; have qi151 : (0 < t145.length) = True := eq_true (by omega); (try rw [show ((0 : Int)).toNat = 0 from rfl] at hx151_0); (try rw [show 0 * 5 = 0 from rfl] at hx151_0); (try rw [Addr.add_zero'] at hx151_0); (try rw [show ((0 : Int)).toNat = 0 from rfl] at hx151_1); (try rw [show 0 * 5 = 0 from rfl] at hx151_1); (try rw [Addr.add_zero'] at hx151_1); (try rw [show ((0 : Int)).toNat = 0 from rfl] at hx151_2); (try rw [show 0 * 5 = 0 from rfl] at hx151_2); (try rw [Addr.add_zero'] at hx151_2); (try rw [show ((0 : Int)).toNat = 0 from rfl] at hx151_3); (try rw [show 0 * 5 = 0 from rfl] at hx151_3); (try rw [Addr.add_zero'] at hx151_3); (try rw [show ((0 : Int)).toNat = 0 from rfl] at hx151_4); (try rw [show 0 * 5 = 0 from rfl] at hx151_4); (try rw [Addr.add_zero'] at hx151_4); have HR151_4 := Aside0.mk hi151_4; have HC151_4 := Aside0.mk hl151_4; clear hi151_4 hl151_4; replace p151 := eq_true p151; replace q151 := eq_true q151; have ea_ := Option.some.inj (hx149_4.symm.trans hx151_4); injection ea_ with ea_ en_ ec_; subst ea_; subst ec_; clear en_; have p152 : 0 ≤ (0 : Int) := (by omega); have q152 : 0 < (((rd_T34 t145 0).f4).length : Int) := of_decide_eq_true (by first | (with_reducible assumption) | assumption); obtain ⟨ad152, e152, hx152_0, hx152_1, hx152_2⟩ := at_T52 (by repeat (first | (with_reducible exact HR151_4.out) | (with_reducible refine Kd.C_alloc ?_ _) | (with_reducible refine Kd.C_drewN ?_ _) | (with_reducible refine Kd.C_drew ?_) | exact HR151_4.out)) 0 p152 q152; cases e152; have qi152 : (0 < ((rd_T34 t145 0).f4).length) = True := eq_true (by omega); (try rw [show ((0 : Int)).toNat = 0 from rfl] at hx152_0); (try rw [show 0 * 3 = 0 from rfl] at hx152_0); (try rw [Addr.add_zero'] at hx152_0); (try rw [show ((0 : Int)).toNat = 0 from rfl] at hx152_1); (try rw [show 0 * 3 = 0 from rfl] at hx152_1); (try rw [Addr.add_zero'] at hx152_1); (try rw [show ((0 : Int)).toNat = 0 from rfl] at hx152_2); (try rw [show 0 * 3 = 0 from rfl] at hx152_2); (try rw [Addr.add_zero'] at hx152_2); replace p152 := eq_true p152; replace q152 := eq_true q152))
              go_ret
              exact ⟨by first | rfl | (simp [errW_none, errW_some] <;> rfl) | (simp [*, errW_none, errW_some] <;> rfl), by repeat (first | (with_reducible first | exact HB.out | apply below_alloc | apply pw_below_drewN | apply below_drew1) | exact HB.out)⟩
            · rw [if_neg c7] at H
              exact absurd H (by simp)
          · rw [if_neg c6] at H
            have c6b0 : ((((rd_T34 t145 0).f4).length : Int) == 1) = false := beq_eq_false_iff_ne.mpr c6
            have c6b1 : ((((rd_T34 t145 0).f4).length : Int) != 1) = true := bne_iff_ne.mpr c6
            obtain rfl := Option.some.inj H
            go_enter Tryd.func20, Tryd.ntmps20
            go_wp2_with (first | ((with_reducible refine gate_dst (N := 8) rfl ?_); (try (refine gate_guard (by rfl) ?_; dsimp only)); refine Kd.R_lit k36 _ 36 ?hg (N := 8) ?hd (xs := ([(⟨0, 1, 0, 0⟩ : S36), (⟨1, 1, 0, 0⟩ : S36), (⟨2, 1, 2, 0⟩ : S36), (⟨3, 1, 0, 5⟩ : S36)] : List (S36))) (inner := [.int .i64 0, .int .i64 1, .int .i64 0, .int .i64 0, .int .i64 1, .int .i64 1, .int .i64 0, .int .i64 0, .int .i64 2, .int .i64 1, .int .i64 2, .int .i64 0, .int .i64 3, .int .i64 1, .int .i64 0, .int .i64 5]) (ok := fun _ => True) (okp := fun _ => True) ?hr ?hp (fun _ hk => hk) trivial (Below.refl _ _) (Nat.le_refl _) (by simp) ?_; (case hd => rfl); (case hg => rfl); (case hr => first | (go_simp; done) | (go_simp; rfl)); (case hp => exact (Reps.c4 (show Kd.M k36 _ _ _ (⟨0, 1, 0, 0⟩ : S36) [.int .i64 0, .int .i64 1, .int .i64 0, .int .i64 0] from (k36_mkM _ _ _ (⟨0, 1, 0, 0⟩ : S36) )) (Reps.c4 (show Kd.M k36 _ _ _ (⟨1, 1, 0, 0⟩ : S36) [.int .i64 1, .int .i64 1, .int .i64 0, .int .i64 0] from (k36_mkM _ _ _ (⟨1, 1, 0, 0⟩ : S36) )) (Reps.c4 (show Kd.M k36 _ _ _ (⟨2, 1, 2, 0⟩ : S36) [.int .i64 2, .int .i64 1, .int .i64 2, .int .i64 0] from (k36_mkM _ _ _ (⟨2, 1, 2, 0⟩ : S36) )) (Reps.c4 (show Kd.M k36 _ _ _ (⟨3, 1, 0, 5⟩ : S36) [.int .i64 3, .int .i64 1, .int .i64 0, .int .i64 5] from (k36_mkM _ _ _ (⟨3, 1, 0, 5⟩ : S36) )) (Reps.none _ _)))))); intro v143 w13 ho14 hb hg_ hnew_; clear hg_ hnew_; (first | rw [← Ny142.out] at ho14 | (simp only [Int.reduceToNat] at ho14; rw [← Ny142.out] at ho14)); have n0_ := Aside0.mk (Kd.R_lower ho14 (below_size (by repeat (first | (with_reducible first | exact HB.out | apply below_alloc | apply pw_below_drewN | apply below_drew1) | exact HB.out)))); have n1_ := Aside0.mk (below_step (by repeat (first | (with_reducible first | exact HB.out | apply below_alloc | apply pw_below_drewN | apply below_drew1) | exact HB.out)) hb); clear HB; have HO144 := n0_; have HB := n1_; clear n0_ n1_; clear hb ho14; obtain ⟨Ao15, co15, eo15⟩ := Kd.R_slice HO144.out; subst eo15) | ((with_reducible refine gate_callee (f := 18) rfl ?_); refine goesL_ (some 9) rfl rfl Tryd.func18 (by kernel_rfl) rfl #[.slice Ao15 y142.length co15] rfl (by (try simp only [List.map_toArray, List.map_cons, List.map_nil]); first | done | rfl | (simp only [List.length_drop, List.length_take]; rfl)) ?_; (with_reducible refine (table_Table.calls _ _ y142 t145 t146 _ ?side1 ?side2 A1.out (KTab.below HTAB.out (by repeat (first | (with_reducible first | exact HB.out | apply below_alloc | apply pw_below_drewN | apply below_drew1) | exact HB.out)))).mono ?_); (case side1 => repeat (first | exact (Kd.R_reads' HO144.out).2.2 | (with_reducible refine Kd.C_alloc ?_ _) | (with_reducible refine Kd.C_drewN ?_ _) | (with_reducible refine Kd.C_drew ?_))); (case side2 => exact (Kd.R_reads' HO144.out).2.1); rintro e w16 ⟨v147, rfl, ho0, hb⟩; refine ⟨_, rfl, ?_⟩; have n0_ := Aside0.mk (Kd.R_below (by (with_reducible repeat (first | apply Kd.R_alloc | apply Kd.R_drewN | apply Kd.R_drew)); exact HO144.out) hb); have n1_ := Aside0.mk (Kd.S_lower ho0 (below_size (by repeat (first | (with_reducible first | exact HB.out | apply below_alloc | apply pw_below_drewN | apply below_drew1) | exact HB.out)))); have n2_ := Aside0.mk (below_step (by repeat (first | (with_reducible first | exact HB.out | apply below_alloc | apply pw_below_drewN | apply below_drew1) | exact HB.out)) hb); clear HO144; clear HB; have HO144 := n0_; have HO148 := n1_; have HB := n2_; clear n0_ n1_ n2_; (try clear hb); (try clear hb2); (try clear hk); (try clear hi); (try clear ho0); obtain ⟨Ao17, co17, eo17⟩ := Kd.S_slice HO148.out; subst eo17; have p149 : 0 ≤ (0 : Int) := (by omega); have q149 : 0 < (t145.length : Int) := of_decide_eq_true (by first | (with_reducible assumption) | assumption); obtain ⟨ad149, A149_4, c149_4, e149, hx149_0, hx149_1, hx149_2, hx149_3, hx149_4, hl149_4, hi149_4⟩ := at_T34 (Kd.S_reads' HO148.out).2.2 0 p149 q149; cases e149; obtain ⟨ce149, hce149, hMe149, hcc149⟩ := Kd.S_get HO148.out z34 0 p149 (by first | exact q149 | exact of_decide_eq_true (by first | (with_reducible assumption) | assumption) | (have e_ := (Kd.S_reads' HO148.out).1; omega)); obtain ⟨ve149_4, rfl, ge149_4⟩ := k34_openM hMe149; have hv149_4 := hcc149 4 _ rfl; rw [add_field _ _ 4 (by omega)] at hv149_4; replace hv149_4 := Option.some.inj (hv149_4.symm.trans hx149_4); rw [hv149_4] at ge149_4; have HL149_4 := Aside0.mk (show Kd.R k52 52 _ _ _ _ ((rd_T34 t145 0).f4) from ge149_4); clear hv149_4 ge149_4; clear hcc149 hce149; have qi149 : (0 < t145.length) = True := eq_true (by omega); (try rw [show ((0 : Int)).toNat = 0 from rfl] at hx149_0); (try rw [show 0 * 5 = 0 from rfl] at hx149_0); (try rw [Addr.add_zero'] at hx149_0); (try rw [show ((0 : Int)).toNat = 0 from rfl] at hx149_1); (try rw [show 0 * 5 = 0 from rfl] at hx149_1); (try rw [Addr.add_zero'] at hx149_1); (try rw [show ((0 : Int)).toNat = 0 from rfl] at hx149_2); (try rw [show 0 * 5 = 0 from rfl] at hx149_2); (try rw [Addr.add_zero'] at hx149_2); (try rw [show ((0 : Int)).toNat = 0 from rfl] at hx149_3); (try rw [show 0 * 5 = 0 from rfl] at hx149_3); (try rw [Addr.add_zero'] at hx149_3); (try rw [show ((0 : Int)).toNat = 0 from rfl] at hx149_4); (try rw [show 0 * 5 = 0 from rfl] at hx149_4); (try rw [Addr.add_zero'] at hx149_4); have HR149_4 := Aside0.mk hi149_4; have HC149_4 := Aside0.mk hl149_4; clear hi149_4 hl149_4; replace p149 := eq_true p149; replace q149 := eq_true q149; have p150 : 0 ≤ (0 : Int) := (by omega); have q150 : 0 < (t145.length : Int) := of_decide_eq_true (by first | (with_reducible assumption) | assumption); obtain ⟨ad150, A150_4, c150_4, e150, hx150_0, hx150_1, hx150_2, hx150_3, hx150_4, hl150_4, hi150_4⟩ := at_T34 (Kd.S_reads' HO148.out).2.2 0 p150 q150; obtain rfl : ad149 = ad150 := (by injection e150); obtain ⟨ce150, hce150, hMe150, hcc150⟩ := Kd.S_get HO148.out z34 0 p150 (by first | exact q150 | exact of_decide_eq_true (by first | (with_reducible assumption) | assumption) | (have e_ := (Kd.S_reads' HO148.out).1; omega)); obtain ⟨ve150_4, rfl, ge150_4⟩ := k34_openM hMe150; have hv150_4 := hcc150 4 _ rfl; rw [add_field _ _ 4 (by omega)] at hv150_4; replace hv150_4 := Option.some.inj (hv150_4.symm.trans hx150_4); rw [hv150_4] at ge150_4; have HL150_4 := Aside0.mk (show Kd.R k52 52 _ _ _ _ ((rd_T34 t145 0).f4) from ge150_4); clear hv150_4 ge150_4; clear hcc150 hce150; have qi150 : (0 < t145.length) = True := eq_true (by omega); (try rw [show ((0 : Int)).toNat = 0 from rfl] at hx150_0); (try rw [show 0 * 5 = 0 from rfl] at hx150_0); (try rw [Addr.add_zero'] at hx150_0); (try rw [show ((0 : Int)).toNat = 0 from rfl] at hx150_1); (try rw [show 0 * 5 = 0 from rfl] at hx150_1); (try rw [Addr.add_zero'] at hx150_1); (try rw [show ((0 : Int)).toNat = 0 from rfl] at hx150_2); (try rw [show 0 * 5 = 0 from rfl] at hx150_2); (try rw [Addr.add_zero'] at hx150_2); (try rw [show ((0 : Int)).toNat = 0 from rfl] at hx150_3); (try rw [show 0 * 5 = 0 from rfl] at hx150_3); (try rw [Addr.add_zero'] at hx150_3); (try rw [show ((0 : Int)).toNat = 0 from rfl] at hx150_4); (try rw [show 0 * 5 = 0 from rfl] at hx150_4); (try rw [Addr.add_zero'] at hx150_4); have HR150_4 := Aside0.mk hi150_4; have HC150_4 := Aside0.mk hl150_4; clear hi150_4 hl150_4; replace p150 := eq_true p150; replace q150 := eq_true q150; have ea_ := Option.some.inj (hx149_4.symm.trans hx150_4); injection ea_ with ea_ en_ ec_; subst ea_; subst ec_; clear en_))
            go_ret
            exact ⟨by first | rfl | (simp [errW_none, errW_some] <;> rfl) | (simp [*, errW_none, errW_some] <;> rfl), by repeat (first | (with_reducible first | exact HB.out | apply below_alloc | apply pw_below_drewN | apply below_drew1) | exact HB.out)⟩
        · rw [if_neg c5] at H
          have c5b0 : (((rd_T34 t145 0).f2) == 3) = false := beq_eq_false_iff_ne.mpr c5
          have c5b1 : (((rd_T34 t145 0).f2) != 3) = true := bne_iff_ne.mpr c5
          obtain rfl := Option.some.inj H
          go_enter Tryd.func20, Tryd.ntmps20
          go_wp2_with (first | ((with_reducible refine gate_dst (N := 8) rfl ?_); (try (refine gate_guard (by rfl) ?_; dsimp only)); refine Kd.R_lit k36 _ 36 ?hg (N := 8) ?hd (xs := ([(⟨0, 1, 0, 0⟩ : S36), (⟨1, 1, 0, 0⟩ : S36), (⟨2, 1, 2, 0⟩ : S36), (⟨3, 1, 0, 5⟩ : S36)] : List (S36))) (inner := [.int .i64 0, .int .i64 1, .int .i64 0, .int .i64 0, .int .i64 1, .int .i64 1, .int .i64 0, .int .i64 0, .int .i64 2, .int .i64 1, .int .i64 2, .int .i64 0, .int .i64 3, .int .i64 1, .int .i64 0, .int .i64 5]) (ok := fun _ => True) (okp := fun _ => True) ?hr ?hp (fun _ hk => hk) trivial (Below.refl _ _) (Nat.le_refl _) (by simp) ?_; (case hd => rfl); (case hg => rfl); (case hr => first | (go_simp; done) | (go_simp; rfl)); (case hp => exact (Reps.c4 (show Kd.M k36 _ _ _ (⟨0, 1, 0, 0⟩ : S36) [.int .i64 0, .int .i64 1, .int .i64 0, .int .i64 0] from (k36_mkM _ _ _ (⟨0, 1, 0, 0⟩ : S36) )) (Reps.c4 (show Kd.M k36 _ _ _ (⟨1, 1, 0, 0⟩ : S36) [.int .i64 1, .int .i64 1, .int .i64 0, .int .i64 0] from (k36_mkM _ _ _ (⟨1, 1, 0, 0⟩ : S36) )) (Reps.c4 (show Kd.M k36 _ _ _ (⟨2, 1, 2, 0⟩ : S36) [.int .i64 2, .int .i64 1, .int .i64 2, .int .i64 0] from (k36_mkM _ _ _ (⟨2, 1, 2, 0⟩ : S36) )) (Reps.c4 (show Kd.M k36 _ _ _ (⟨3, 1, 0, 5⟩ : S36) [.int .i64 3, .int .i64 1, .int .i64 0, .int .i64 5] from (k36_mkM _ _ _ (⟨3, 1, 0, 5⟩ : S36) )) (Reps.none _ _)))))); intro v143 w18 ho19 hb hg_ hnew_; clear hg_ hnew_; (first | rw [← Ny142.out] at ho19 | (simp only [Int.reduceToNat] at ho19; rw [← Ny142.out] at ho19)); have n0_ := Aside0.mk (Kd.R_lower ho19 (below_size (by repeat (first | (with_reducible first | exact HB.out | apply below_alloc | apply pw_below_drewN | apply below_drew1) | exact HB.out)))); have n1_ := Aside0.mk (below_step (by repeat (first | (with_reducible first | exact HB.out | apply below_alloc | apply pw_below_drewN | apply below_drew1) | exact HB.out)) hb); clear HB; have HO144 := n0_; have HB := n1_; clear n0_ n1_; clear hb ho19; obtain ⟨Ao20, co20, eo20⟩ := Kd.R_slice HO144.out; subst eo20) | ((with_reducible refine gate_callee (f := 18) rfl ?_); refine goesL_ (some 9) rfl rfl Tryd.func18 (by kernel_rfl) rfl #[.slice Ao20 y142.length co20] rfl (by (try simp only [List.map_toArray, List.map_cons, List.map_nil]); first | done | rfl | (simp only [List.length_drop, List.length_take]; rfl)) ?_; (with_reducible refine (table_Table.calls _ _ y142 t145 t146 _ ?side1 ?side2 A1.out (KTab.below HTAB.out (by repeat (first | (with_reducible first | exact HB.out | apply below_alloc | apply pw_below_drewN | apply below_drew1) | exact HB.out)))).mono ?_); (case side1 => repeat (first | exact (Kd.R_reads' HO144.out).2.2 | (with_reducible refine Kd.C_alloc ?_ _) | (with_reducible refine Kd.C_drewN ?_ _) | (with_reducible refine Kd.C_drew ?_))); (case side2 => exact (Kd.R_reads' HO144.out).2.1); rintro e w21 ⟨v147, rfl, ho0, hb⟩; refine ⟨_, rfl, ?_⟩; have n0_ := Aside0.mk (Kd.R_below (by (with_reducible repeat (first | apply Kd.R_alloc | apply Kd.R_drewN | apply Kd.R_drew)); exact HO144.out) hb); have n1_ := Aside0.mk (Kd.S_lower ho0 (below_size (by repeat (first | (with_reducible first | exact HB.out | apply below_alloc | apply pw_below_drewN | apply below_drew1) | exact HB.out)))); have n2_ := Aside0.mk (below_step (by repeat (first | (with_reducible first | exact HB.out | apply below_alloc | apply pw_below_drewN | apply below_drew1) | exact HB.out)) hb); clear HO144; clear HB; have HO144 := n0_; have HO148 := n1_; have HB := n2_; clear n0_ n1_ n2_; (try clear hb); (try clear hb2); (try clear hk); (try clear hi); (try clear ho0); obtain ⟨Ao22, co22, eo22⟩ := Kd.S_slice HO148.out; subst eo22; have p149 : 0 ≤ (0 : Int) := (by omega); have q149 : 0 < (t145.length : Int) := of_decide_eq_true (by first | (with_reducible assumption) | assumption); obtain ⟨ad149, A149_4, c149_4, e149, hx149_0, hx149_1, hx149_2, hx149_3, hx149_4, hl149_4, hi149_4⟩ := at_T34 (Kd.S_reads' HO148.out).2.2 0 p149 q149; cases e149; obtain ⟨ce149, hce149, hMe149, hcc149⟩ := Kd.S_get HO148.out z34 0 p149 (by first | exact q149 | exact of_decide_eq_true (by first | (with_reducible assumption) | assumption) | (have e_ := (Kd.S_reads' HO148.out).1; omega)); obtain ⟨ve149_4, rfl, ge149_4⟩ := k34_openM hMe149; have hv149_4 := hcc149 4 _ rfl; rw [add_field _ _ 4 (by omega)] at hv149_4; replace hv149_4 := Option.some.inj (hv149_4.symm.trans hx149_4); rw [hv149_4] at ge149_4; have HL149_4 := Aside0.mk (show Kd.R k52 52 _ _ _ _ ((rd_T34 t145 0).f4) from ge149_4); clear hv149_4 ge149_4; clear hcc149 hce149; have qi149 : (0 < t145.length) = True := eq_true (by omega); (try rw [show ((0 : Int)).toNat = 0 from rfl] at hx149_0); (try rw [show 0 * 5 = 0 from rfl] at hx149_0); (try rw [Addr.add_zero'] at hx149_0); (try rw [show ((0 : Int)).toNat = 0 from rfl] at hx149_1); (try rw [show 0 * 5 = 0 from rfl] at hx149_1); (try rw [Addr.add_zero'] at hx149_1); (try rw [show ((0 : Int)).toNat = 0 from rfl] at hx149_2); (try rw [show 0 * 5 = 0 from rfl] at hx149_2); (try rw [Addr.add_zero'] at hx149_2); (try rw [show ((0 : Int)).toNat = 0 from rfl] at hx149_3); (try rw [show 0 * 5 = 0 from rfl] at hx149_3); (try rw [Addr.add_zero'] at hx149_3); (try rw [show ((0 : Int)).toNat = 0 from rfl] at hx149_4); (try rw [show 0 * 5 = 0 from rfl] at hx149_4); (try rw [Addr.add_zero'] at hx149_4); have HR149_4 := Aside0.mk hi149_4; have HC149_4 := Aside0.mk hl149_4; clear hi149_4 hl149_4; replace p149 := eq_true p149; replace q149 := eq_true q149))
          go_ret
          exact ⟨by first | rfl | (simp [errW_none, errW_some] <;> rfl) | (simp [*, errW_none, errW_some] <;> rfl), by repeat (first | (with_reducible first | exact HB.out | apply below_alloc | apply pw_below_drewN | apply below_drew1) | exact HB.out)⟩
      · rw [if_neg c4] at H
        exact absurd H (by simp)
    · rw [if_neg c3] at H
      have c3b0 : ((t145.length : Int) == 1) = false := beq_eq_false_iff_ne.mpr c3
      have c3b1 : ((t145.length : Int) != 1) = true := bne_iff_ne.mpr c3
      obtain rfl := Option.some.inj H
      go_enter Tryd.func20, Tryd.ntmps20
      go_wp2_with (first | ((with_reducible refine gate_dst (N := 8) rfl ?_); (try (refine gate_guard (by rfl) ?_; dsimp only)); refine Kd.R_lit k36 _ 36 ?hg (N := 8) ?hd (xs := ([(⟨0, 1, 0, 0⟩ : S36), (⟨1, 1, 0, 0⟩ : S36), (⟨2, 1, 2, 0⟩ : S36), (⟨3, 1, 0, 5⟩ : S36)] : List (S36))) (inner := [.int .i64 0, .int .i64 1, .int .i64 0, .int .i64 0, .int .i64 1, .int .i64 1, .int .i64 0, .int .i64 0, .int .i64 2, .int .i64 1, .int .i64 2, .int .i64 0, .int .i64 3, .int .i64 1, .int .i64 0, .int .i64 5]) (ok := fun _ => True) (okp := fun _ => True) ?hr ?hp (fun _ hk => hk) trivial (Below.refl _ _) (Nat.le_refl _) (by simp) ?_; (case hd => rfl); (case hg => rfl); (case hr => first | (go_simp; done) | (go_simp; rfl)); (case hp => exact (Reps.c4 (show Kd.M k36 _ _ _ (⟨0, 1, 0, 0⟩ : S36) [.int .i64 0, .int .i64 1, .int .i64 0, .int .i64 0] from (k36_mkM _ _ _ (⟨0, 1, 0, 0⟩ : S36) )) (Reps.c4 (show Kd.M k36 _ _ _ (⟨1, 1, 0, 0⟩ : S36) [.int .i64 1, .int .i64 1, .int .i64 0, .int .i64 0] from (k36_mkM _ _ _ (⟨1, 1, 0, 0⟩ : S36) )) (Reps.c4 (show Kd.M k36 _ _ _ (⟨2, 1, 2, 0⟩ : S36) [.int .i64 2, .int .i64 1, .int .i64 2, .int .i64 0] from (k36_mkM _ _ _ (⟨2, 1, 2, 0⟩ : S36) )) (Reps.c4 (show Kd.M k36 _ _ _ (⟨3, 1, 0, 5⟩ : S36) [.int .i64 3, .int .i64 1, .int .i64 0, .int .i64 5] from (k36_mkM _ _ _ (⟨3, 1, 0, 5⟩ : S36) )) (Reps.none _ _)))))); intro v143 w23 ho24 hb hg_ hnew_; clear hg_ hnew_; (first | rw [← Ny142.out] at ho24 | (simp only [Int.reduceToNat] at ho24; rw [← Ny142.out] at ho24)); have n0_ := Aside0.mk (Kd.R_lower ho24 (below_size (by repeat (first | (with_reducible first | exact HB.out | apply below_alloc | apply pw_below_drewN | apply below_drew1) | exact HB.out)))); have n1_ := Aside0.mk (below_step (by repeat (first | (with_reducible first | exact HB.out | apply below_alloc | apply pw_below_drewN | apply below_drew1) | exact HB.out)) hb); clear HB; have HO144 := n0_; have HB := n1_; clear n0_ n1_; clear hb ho24; obtain ⟨Ao25, co25, eo25⟩ := Kd.R_slice HO144.out; subst eo25) | ((with_reducible refine gate_callee (f := 18) rfl ?_); refine goesL_ (some 9) rfl rfl Tryd.func18 (by kernel_rfl) rfl #[.slice Ao25 y142.length co25] rfl (by (try simp only [List.map_toArray, List.map_cons, List.map_nil]); first | done | rfl | (simp only [List.length_drop, List.length_take]; rfl)) ?_; (with_reducible refine (table_Table.calls _ _ y142 t145 t146 _ ?side1 ?side2 A1.out (KTab.below HTAB.out (by repeat (first | (with_reducible first | exact HB.out | apply below_alloc | apply pw_below_drewN | apply below_drew1) | exact HB.out)))).mono ?_); (case side1 => repeat (first | exact (Kd.R_reads' HO144.out).2.2 | (with_reducible refine Kd.C_alloc ?_ _) | (with_reducible refine Kd.C_drewN ?_ _) | (with_reducible refine Kd.C_drew ?_))); (case side2 => exact (Kd.R_reads' HO144.out).2.1); rintro e w26 ⟨v147, rfl, ho0, hb⟩; refine ⟨_, rfl, ?_⟩; have n0_ := Aside0.mk (Kd.R_below (by (with_reducible repeat (first | apply Kd.R_alloc | apply Kd.R_drewN | apply Kd.R_drew)); exact HO144.out) hb); have n1_ := Aside0.mk (Kd.S_lower ho0 (below_size (by repeat (first | (with_reducible first | exact HB.out | apply below_alloc | apply pw_below_drewN | apply below_drew1) | exact HB.out)))); have n2_ := Aside0.mk (below_step (by repeat (first | (with_reducible first | exact HB.out | apply below_alloc | apply pw_below_drewN | apply below_drew1) | exact HB.out)) hb); clear HO144; clear HB; have HO144 := n0_; have HO148 := n1_; have HB := n2_; clear n0_ n1_ n2_; (try clear hb); (try clear hb2); (try clear hk); (try clear hi); (try clear ho0); obtain ⟨Ao27, co27, eo27⟩ := Kd.S_slice HO148.out; subst eo27))
      go_ret
      exact ⟨by first | rfl | (simp [errW_none, errW_some] <;> rfl) | (simp [*, errW_none, errW_some] <;> rfl), by repeat (first | (with_reducible first | exact HB.out | apply below_alloc | apply pw_below_drewN | apply below_drew1) | exact HB.out)⟩
  · rw [if_neg c2] at H
    have c2b0 : (t146 == 0) = false := beq_eq_false_iff_ne.mpr c2
    have c2b1 : (t146 != 0) = true := bne_iff_ne.mpr c2
    obtain rfl := Option.some.inj H
    go_enter Tryd.func20, Tryd.ntmps20
    go_wp2_with (first | ((with_reducible refine gate_dst (N := 8) rfl ?_); (try (refine gate_guard (by rfl) ?_; dsimp only)); refine Kd.R_lit k36 _ 36 ?hg (N := 8) ?hd (xs := ([(⟨0, 1, 0, 0⟩ : S36), (⟨1, 1, 0, 0⟩ : S36), (⟨2, 1, 2, 0⟩ : S36), (⟨3, 1, 0, 5⟩ : S36)] : List (S36))) (inner := [.int .i64 0, .int .i64 1, .int .i64 0, .int .i64 0, .int .i64 1, .int .i64 1, .int .i64 0, .int .i64 0, .int .i64 2, .int .i64 1, .int .i64 2, .int .i64 0, .int .i64 3, .int .i64 1, .int .i64 0, .int .i64 5]) (ok := fun _ => True) (okp := fun _ => True) ?hr ?hp (fun _ hk => hk) trivial (Below.refl _ _) (Nat.le_refl _) (by simp) ?_; (case hd => rfl); (case hg => rfl); (case hr => first | (go_simp; done) | (go_simp; rfl)); (case hp => exact (Reps.c4 (show Kd.M k36 _ _ _ (⟨0, 1, 0, 0⟩ : S36) [.int .i64 0, .int .i64 1, .int .i64 0, .int .i64 0] from (k36_mkM _ _ _ (⟨0, 1, 0, 0⟩ : S36) )) (Reps.c4 (show Kd.M k36 _ _ _ (⟨1, 1, 0, 0⟩ : S36) [.int .i64 1, .int .i64 1, .int .i64 0, .int .i64 0] from (k36_mkM _ _ _ (⟨1, 1, 0, 0⟩ : S36) )) (Reps.c4 (show Kd.M k36 _ _ _ (⟨2, 1, 2, 0⟩ : S36) [.int .i64 2, .int .i64 1, .int .i64 2, .int .i64 0] from (k36_mkM _ _ _ (⟨2, 1, 2, 0⟩ : S36) )) (Reps.c4 (show Kd.M k36 _ _ _ (⟨3, 1, 0, 5⟩ : S36) [.int .i64 3, .int .i64 1, .int .i64 0, .int .i64 5] from (k36_mkM _ _ _ (⟨3, 1, 0, 5⟩ : S36) )) (Reps.none _ _)))))); intro v143 w28 ho29 hb hg_ hnew_; clear hg_ hnew_; (first | rw [← Ny142.out] at ho29 | (simp only [Int.reduceToNat] at ho29; rw [← Ny142.out] at ho29)); have n0_ := Aside0.mk (Kd.R_lower ho29 (below_size (by repeat (first | (with_reducible first | exact HB.out | apply below_alloc | apply pw_below_drewN | apply below_drew1) | exact HB.out)))); have n1_ := Aside0.mk (below_step (by repeat (first | (with_reducible first | exact HB.out | apply below_alloc | apply pw_below_drewN | apply below_drew1) | exact HB.out)) hb); clear HB; have HO144 := n0_; have HB := n1_; clear n0_ n1_; clear hb ho29; obtain ⟨Ao30, co30, eo30⟩ := Kd.R_slice HO144.out; subst eo30) | ((with_reducible refine gate_callee (f := 18) rfl ?_); refine goesL_ (some 9) rfl rfl Tryd.func18 (by kernel_rfl) rfl #[.slice Ao30 y142.length co30] rfl (by (try simp only [List.map_toArray, List.map_cons, List.map_nil]); first | done | rfl | (simp only [List.length_drop, List.length_take]; rfl)) ?_; (with_reducible refine (table_Table.calls _ _ y142 t145 t146 _ ?side1 ?side2 A1.out (KTab.below HTAB.out (by repeat (first | (with_reducible first | exact HB.out | apply below_alloc | apply pw_below_drewN | apply below_drew1) | exact HB.out)))).mono ?_); (case side1 => repeat (first | exact (Kd.R_reads' HO144.out).2.2 | (with_reducible refine Kd.C_alloc ?_ _) | (with_reducible refine Kd.C_drewN ?_ _) | (with_reducible refine Kd.C_drew ?_))); (case side2 => exact (Kd.R_reads' HO144.out).2.1); rintro e w31 ⟨v147, rfl, ho0, hb⟩; refine ⟨_, rfl, ?_⟩; have n0_ := Aside0.mk (Kd.R_below (by (with_reducible repeat (first | apply Kd.R_alloc | apply Kd.R_drewN | apply Kd.R_drew)); exact HO144.out) hb); have n1_ := Aside0.mk (Kd.S_lower ho0 (below_size (by repeat (first | (with_reducible first | exact HB.out | apply below_alloc | apply pw_below_drewN | apply below_drew1) | exact HB.out)))); have n2_ := Aside0.mk (below_step (by repeat (first | (with_reducible first | exact HB.out | apply below_alloc | apply pw_below_drewN | apply below_drew1) | exact HB.out)) hb); clear HO144; clear HB; have HO144 := n0_; have HO148 := n1_; have HB := n2_; clear n0_ n1_ n2_; (try clear hb); (try clear hb2); (try clear hk); (try clear hi); (try clear ho0)))
    go_ret
    exact ⟨by first | rfl | (simp [errW_none, errW_some] <;> rfl) | (simp [*, errW_none, errW_some] <;> rfl), by repeat (first | (with_reducible first | exact HB.out | apply below_alloc | apply pw_below_drewN | apply below_drew1) | exact HB.out)⟩

/-! ### recantref06_OpsSame: function 24 -/
def recantref06_OpsSame.l0 : Nat → List (S52) → List (S52) → Int → Int → Option (Bool)
  | 0, _, _, _, _ => none
  | k + 1, x0, x1, x12, x13 => if x13 < x12 then (if 0 ≤ x13 then (if x13 < (x0.length : Int) then (if x13 < (x1.length : Int) then (if (!(((rd_T52 x0 x13).f0) == ((rd_T52 x1 x13).f0)) || (!(((rd_T52 x0 x13).f1) == ((rd_T52 x1 x13).f1)) || (!(((rd_T52 x0 x13).f2) == ((rd_T52 x1 x13).f2))))) = true then (some false) else (recantref06_OpsSame.l0 k x0 x1 x12 (wrap64 (x13 + 1)))) else (none)) else (none)) else (none)) else (some true)
def recantref06_OpsSame.f (k : Nat) (l0 : List (S52)) (l1 : List (S52)) : Option (Bool) := if (l0.length : Int) = (l1.length : Int) then (recantref06_OpsSame.l0 k l0 l1 (l0.length : Int) 0) else (some false)
theorem recantref06_OpsSame.mono_l : ∀ k, (∀ y0 y1 y2 y3, LeO (recantref06_OpsSame.l0 k y0 y1 y2 y3) (recantref06_OpsSame.l0 (k + 1) y0 y1 y2 y3))
  | 0 => fun _ _ _ _ r h => by simp [recantref06_OpsSame.l0] at h
  | k + 1 => by
    have ih0 := recantref06_OpsSame.mono_l k
    · intro y0 y1 y2 y3
      unfold recantref06_OpsSame.l0
      repeat' first
      | (with_reducible exact ih0 _ _ _ _)
      | (with_reducible exact LeO.refl _)
      | (with_reducible exact LeO.none _)
      | (with_reducible refine LeO.ite ?_ ?_)
      | (with_reducible refine LeO.bind ?_ (fun _ => ?_))
      | exact ih0 _ _ _ _
      | exact LeO.none _
      | refine LeO.ite ?_ ?_
      | refine LeO.bind ?_ (fun _ => ?_)
theorem recantref06_OpsSame.mono : ∀ a0 a1 k, LeO (recantref06_OpsSame.f k a0 a1) (recantref06_OpsSame.f (k + 1) a0 a1) := by
  intro a0 a1 k
  have ih0 := recantref06_OpsSame.mono_l k
  unfold recantref06_OpsSame.f
  repeat' first
      | (with_reducible exact ih0 _ _ _ _)
      | (with_reducible exact LeO.refl _)
      | (with_reducible exact LeO.none _)
      | (with_reducible refine LeO.ite ?_ ?_)
      | (with_reducible refine LeO.bind ?_ (fun _ => ?_))
      | exact ih0 _ _ _ _
      | exact LeO.none _
      | refine LeO.ite ?_ ?_
      | refine LeO.bind ?_ (fun _ => ?_)
set_option maxHeartbeats 8000000 in
set_option maxRecDepth 100000 in
theorem recantref06_OpsSame.calls (k : Nat) (A0 : Option Addr) (c0 : Nat) (l0 : List (S52)) (A1 : Option Addr) (c1 : Nat) (l1 : List (S52)) (r : Bool) (w : World) (hr0 : Kd.C k52 w A0 l0.length l0) (hc0 : l0.length ≤ c0) (hr1 : Kd.C k52 w A1 l1.length l1) (hc1 : l1.length ≤ c1) (h : recantref06_OpsSame.f k l0 l1 = some r) :
    Calls Tryd.prog 24 #[.slice A0 l0.length c0, .slice A1 l1.length c1] w fun e w' => e = .returned (.bool r) ∧ Drawn0 w w' := by
  have hu52 := Tryd.underlying52
  have HR0 := Aside0.mk hr0
  have HC0 := Aside0.mk hc0
  clear hr0 hc0
  have HR1 := Aside0.mk hr1
  have HC1 := Aside0.mk hc1
  clear hr1 hc1
  have H : (if (l0.length : Int) = (l1.length : Int) then (recantref06_OpsSame.l0 k l0 l1 (l0.length : Int) 0) else (some false)) = some r := h
  clear h
  by_cases c3 : (l0.length : Int) = (l1.length : Int)
  · rw [if_pos c3] at H
    have c3b0 : ((l0.length : Int) == (l1.length : Int)) = true := beq_iff_eq.mpr c3
    have c3b1 : ((l0.length : Int) != (l1.length : Int)) = false := bne_eq_false_iff_eq.mpr c3
    have c3b2 : (l0.length == l1.length) = true := by first | simpa using c3 | (simp at c3 ⊢; omega)
    clear c3
    have H' := Aside0.mk H
    clear H
    go_enter Tryd.func24, Tryd.ntmps24
    go_wp2
    repeat (go_quiet (fail); try go_wp2)
    go_loopg [13] k (fun kq v13 w' => ∃ (x13_1 : Int), v13 = .int .i64 x13_1 ∧ Aside0 (recantref06_OpsSame.l0 kq l0 l1 (l0.length : Int) x13_1 = some r) ∧ Aside0 (kq ≤ k) ∧ Drawn0 w w')
    case atStart => exact ⟨(0), (by first | rfl | (simp; done) | (simp [*]; done)), H', ⟨Nat.le_refl _⟩, by repeat (first | exact Drawn0.refl _ | apply Drawn0.step)⟩
    case round =>
      clear H'
      try clear c1
      try clear c2
      try clear p2
      try clear c3
      try clear c3b0
      try clear c3b1
      try clear c3b2
      obtain ⟨x13_1, rfl, HA, HK1, ⟨m1, rfl⟩⟩ := hrel
      cases gk with
      | zero => exact absurd HA.out (by simp [recantref06_OpsSame.l0])
      | succ k1 =>
        have H := HA.out
        clear HA
        simp only [recantref06_OpsSame.l0] at H
        by_cases c4 : x13_1 < (l0.length : Int)
        · rw [if_pos c4] at H
          have c4b0 : decide (x13_1 < (l0.length : Int)) = true := decide_eq_true c4
          clear c4
          by_cases c5 : 0 ≤ x13_1
          · rw [if_pos c5] at H
            have c5b0 : decide (0 ≤ x13_1) = true := decide_eq_true c5
            clear c5
            by_cases c6 : x13_1 < (l0.length : Int)
            · rw [if_pos c6] at H
              have c6b0 : decide (x13_1 < (l0.length : Int)) = true := decide_eq_true c6
              clear c6
              by_cases c7 : x13_1 < (l1.length : Int)
              · rw [if_pos c7] at H
                have c7b0 : decide (x13_1 < (l1.length : Int)) = true := decide_eq_true c7
                clear c7
                by_cases c8 : (!(((rd_T52 l0 x13_1).f0) == ((rd_T52 l1 x13_1).f0)) || (!(((rd_T52 l0 x13_1).f1) == ((rd_T52 l1 x13_1).f1)) || (!(((rd_T52 l0 x13_1).f2) == ((rd_T52 l1 x13_1).f2))))) = true
                · rw [if_pos c8] at H
                  have c8b0 : (!(((rd_T52 l0 x13_1).f0) == ((rd_T52 l1 x13_1).f0)) || (!(((rd_T52 l0 x13_1).f1) == ((rd_T52 l1 x13_1).f1)) || (!(((rd_T52 l0 x13_1).f2) == ((rd_T52 l1 x13_1).f2))))) = true := c8
                  clear c8
                  obtain rfl := Option.some.inj H
                  have p153 : 0 ≤ (x13_1 : Int) := of_decide_eq_true (by first | (with_reducible assumption) | assumption)
                  have q153 : x13_1 < (l0.length : Int) := of_decide_eq_true (by first | (with_reducible assumption) | assumption)
                  obtain ⟨ad153, e153, hx153_0, hx153_1, hx153_2⟩ := at_T52 HR0.out x13_1 p153 q153
                  cases e153
                  replace p153 := eq_true p153
                  replace q153 := eq_true q153
                  have p154 : 0 ≤ (x13_1 : Int) := of_decide_eq_true (by first | (with_reducible assumption) | assumption)
                  have q154 : x13_1 < (l1.length : Int) := of_decide_eq_true (by first | (with_reducible assumption) | assumption)
                  obtain ⟨ad154, e154, hx154_0, hx154_1, hx154_2⟩ := at_T52 HR1.out x13_1 p154 q154
                  cases e154
                  replace p154 := eq_true p154
                  replace q154 := eq_true q154
                  go_wp2
                  repeat (go_quiet (fail); try go_wp2)
                  go_ret
                  exact ⟨by first | rfl | (simp; done) | (simp [*]; done), by repeat (first | exact Drawn0.refl _ | apply Drawn0.step)⟩
                · rw [if_neg c8] at H
                  have c8b0 : (!(((rd_T52 l0 x13_1).f0) == ((rd_T52 l1 x13_1).f0)) || (!(((rd_T52 l0 x13_1).f1) == ((rd_T52 l1 x13_1).f1)) || (!(((rd_T52 l0 x13_1).f2) == ((rd_T52 l1 x13_1).f2))))) = false := by simpa using c8
                  clear c8
                  have H' := Aside0.mk H
                  clear H
                  have p153 : 0 ≤ (x13_1 : Int) := of_decide_eq_true (by first | (with_reducible assumption) | assumption)
                  have q153 : x13_1 < (l0.length : Int) := of_decide_eq_true (by first | (with_reducible assumption) | assumption)
                  obtain ⟨ad153, e153, hx153_0, hx153_1, hx153_2⟩ := at_T52 HR0.out x13_1 p153 q153
                  cases e153
                  replace p153 := eq_true p153
                  replace q153 := eq_true q153
                  have p154 : 0 ≤ (x13_1 : Int) := of_decide_eq_true (by first | (with_reducible assumption) | assumption)
                  have q154 : x13_1 < (l1.length : Int) := of_decide_eq_true (by first | (with_reducible assumption) | assumption)
                  obtain ⟨ad154, e154, hx154_0, hx154_1, hx154_2⟩ := at_T52 HR1.out x13_1 p154 q154
                  cases e154
                  replace p154 := eq_true p154
                  replace q154 := eq_true q154
                  go_wp2
                  repeat (go_quiet (fail); try go_wp2)
                  go_roundg k1
                  case measure => have := HK1.out; omega
                  case rel => exact ⟨(wrap64 (x13_1 + 1)), (by first | rfl | (simp; done) | (simp [*]; done)), H', ⟨by have := HK1.out; omega⟩, by repeat (first | exact Drawn0.refl _ | apply Drawn0.step)⟩
              · rw [if_neg c7] at H
                exact absurd H (by simp)
            · rw [if_neg c6] at H
              exact absurd H (by simp)
          · rw [if_neg c5] at H
            exact absurd H (by simp)
        · rw [if_neg c4] at H
          have c4b0 : decide (x13_1 < (l0.length : Int)) = false := decide_eq_false c4
          clear c4
          obtain rfl := Option.some.inj H
          go_wp2
          repeat (go_quiet (fail); try go_wp2)
          go_ret
          exact ⟨by first | rfl | (simp; done) | (simp [*]; done), by repeat (first | exact Drawn0.refl _ | apply Drawn0.step)⟩
  · rw [if_neg c3] at H
    have c3b0 : ((l0.length : Int) == (l1.length : Int)) = false := beq_eq_false_iff_ne.mpr c3
    have c3b1 : ((l0.length : Int) != (l1.length : Int)) = true := bne_iff_ne.mpr c3
    have c3b2 : (l0.length == l1.length) = false := by first | simpa using c3 | (simp at c3 ⊢; omega)
    obtain rfl := Option.some.inj H
    go_enter Tryd.func24, Tryd.ntmps24
    go_wp2
    repeat (go_quiet (fail); try go_wp2)
    go_ret
    exact ⟨by first | rfl | (simp; done) | (simp [*]; done), by repeat (first | exact Drawn0.refl _ | apply Drawn0.step)⟩

end Go.Proofs.YtkjkceeopkfniaaDoor.P

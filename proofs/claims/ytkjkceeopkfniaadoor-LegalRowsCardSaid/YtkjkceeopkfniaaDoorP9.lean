-- Written by gprint.py, a program of this session's: the kit's print with given functions beside. Not trusted: Lean checks it.
import Derived.Test.YtkjkceeopkfniaaDoorP0
import Derived.Test.YtkjkceeopkfniaaDoorP5
import Derived.Test.YtkjkceeopkfniaaDoorP7
namespace Go.Proofs.YtkjkceeopkfniaaDoor.P
open Go.RowKit Go.Proofs.YtkjkceeopkfniaaDoorW.PrintWords Go.Proofs.YtkjkceeopkfniaaDoorW.PrintLast Go.Proofs.YtkjkceeopkfniaaDoorW.PrintMore
attribute [local go_sem] max2_int min2_int max_two min_two max_three min_three max_four min_four   -- for this text's walks alone
set_option linter.unusedVariables false
set_option linter.unusedSimpArgs false

/-! ### recantref10_Behind: function 44 -/
def recantref10_Behind.l0 : Nat → List (S34) → Int → List Int → Int → Int → List (S52) → Option ((List (S52)))
  | 0, _, _, _, _, _, _ => none
  | k + 1, x0, x2, x11, x12, x13, x239000 => if x13 < x12 then (if 0 ≤ x13 then (if x13 < (x11.length : Int) then ((recantref09_Bit.f k x2 (rd x11 x13)).bind fun t240 => (if t240 = true then (if 0 ≤ (rd x11 x13) then (if (rd x11 x13) < (x0.length : Int) then ((recantref10_With.f k x239000 ((rd_T34 x0 (rd x11 x13)).f4)).bind fun t242 => (recantref10_Behind.l0 k x0 x2 x11 x12 (wrap64 (x13 + 1)) t242)) else (none)) else (none)) else (recantref10_Behind.l0 k x0 x2 x11 x12 (wrap64 (x13 + 1)) x239000))) else (none)) else (none)) else (some x239000)
def recantref10_Behind.f (k : Nat) (l0 : List (S34)) (l1 : List Int) (a2 : Int) : Option ((List (S52))) := recantref10_Behind.l0 k l0 a2 l1 (l1.length : Int) 0 ([] : List (S52))
theorem recantref10_Behind.mono_l : ∀ k, (∀ y0 y1 y2 y3 y4 y5, LeO (recantref10_Behind.l0 k y0 y1 y2 y3 y4 y5) (recantref10_Behind.l0 (k + 1) y0 y1 y2 y3 y4 y5))
  | 0 => fun _ _ _ _ _ _ r h => by simp [recantref10_Behind.l0] at h
  | k + 1 => by
    have ih0 := recantref10_Behind.mono_l k
    · intro y0 y1 y2 y3 y4 y5
      unfold recantref10_Behind.l0
      repeat' first
      | (with_reducible exact ih0 _ _ _ _ _ _)
      | (with_reducible exact recantref09_Bit.mono _ _ _)
      | (with_reducible exact recantref10_With.mono _ _ _)
      | (with_reducible exact LeO.refl _)
      | (with_reducible exact LeO.none _)
      | (with_reducible refine LeO.ite ?_ ?_)
      | (with_reducible refine LeO.bind ?_ (fun _ => ?_))
      | exact ih0 _ _ _ _ _ _
      | exact recantref09_Bit.mono _ _ _
      | exact recantref10_With.mono _ _ _
      | exact LeO.none _
      | refine LeO.ite ?_ ?_
      | refine LeO.bind ?_ (fun _ => ?_)
theorem recantref10_Behind.mono : ∀ a0 a1 a2 k, LeO (recantref10_Behind.f k a0 a1 a2) (recantref10_Behind.f (k + 1) a0 a1 a2) := by
  intro a0 a1 a2 k
  have ih0 := recantref10_Behind.mono_l k
  unfold recantref10_Behind.f
  repeat' first
      | (with_reducible exact ih0 _ _ _ _ _ _)
      | (with_reducible exact recantref09_Bit.mono _ _ _)
      | (with_reducible exact recantref10_With.mono _ _ _)
      | (with_reducible exact LeO.refl _)
      | (with_reducible exact LeO.none _)
      | (with_reducible refine LeO.ite ?_ ?_)
      | (with_reducible refine LeO.bind ?_ (fun _ => ?_))
      | exact ih0 _ _ _ _ _ _
      | exact recantref09_Bit.mono _ _ _
      | exact recantref10_With.mono _ _ _
      | exact LeO.none _
      | refine LeO.ite ?_ ?_
      | refine LeO.bind ?_ (fun _ => ?_)
def recantref10_Behind.T6 : Bool × List (List Nat × List Nat) := (true, [([], []), ([], []), ([], []), ([1, 2], [1, 2]), ([3], [3]), ([4], [4]), ([0, 5], [0, 5]), ([6, 6, 0, 1, 2, 3, 4, 5, 6], [6])])
def recantref10_Behind.B6 : List Nat := [0, 0, 0, 6, 14, 30, 63, 127]
theorem recantref10_Behind.tab6 : rtab .any (opsOf Tryd.f44 6) = recantref10_Behind.T6 := by kernel_rfl
theorem recantref10_Behind.bits6 : waitsOk recantref10_Behind.T6.2 recantref10_Behind.B6 = true := by kernel_rfl
set_option maxHeartbeats 8000000 in
set_option maxRecDepth 100000 in
theorem recantref10_Behind.calls (k : Nat) (A0 : Option Addr) (c0 : Nat) (l0 : List (S34)) (A1 : Option Addr) (c1 : Nat) (l1 : List Int) (a2 : Int) (r : List (S52)) (w : World) (hr0 : Kd.C k34 w A0 l0.length l0) (hc0 : l0.length ≤ c0) (hr1 : Kd.C (Kd.int .i64) w A1 l1.length l1) (hc1 : l1.length ≤ c1) (h : recantref10_Behind.f k l0 l1 a2 = some r) :
    Calls Tryd.prog 44 #[.slice A0 l0.length c0, .slice A1 l1.length c1, .int .u32 a2] w fun e w' => ∃ v0_ : Value, e = .returned (.agg #[v0_]) ∧ Kd.V k52 52 w' w.heap.size (fun k_ => (w.heap.size ≤ k_)) v0_ r ∧ Below w.heap.size w w' := by
  have hu55 := Tryd.underlying55
  have HR0 := Aside0.mk hr0
  have HC0 := Aside0.mk hc0
  clear hr0 hc0
  have HR1 := Aside0.mk hr1
  have HC1 := Aside0.mk hc1
  clear hr1 hc1
  have HB := Aside0.mk (Below.refl w.heap.size w)
  have H : (recantref10_Behind.l0 k l0 a2 l1 (l1.length : Int) 0 ([] : List (S52))) = some r := h
  clear h
  have H' := Aside0.mk H
  clear H
  go_enter Tryd.func44, Tryd.ntmps44
  go_wp2_with (first | ((with_reducible refine gate_dst (N := 6) rfl ?_); refine box_event ?hg (N := 6) ?hd (cs := #[.slice none 0 0]) (t := 55) ?hr ?_; (case hd => rfl); (case hg => rfl); (case hr => first | (go_simp; done) | (go_simp; rfl)); intro gb237 hg w4 hbox hb; have n0_ := Aside0.mk (below_step (by repeat (first | (with_reducible first | exact HB.out | apply below_alloc | apply pw_below_drewN | apply below_drew1) | exact HB.out)) hb); have n1_ := Aside0.mk (hbox); have n2_ := Aside0.mk ((by rw [hg]; exact (below_size (by repeat (first | (with_reducible first | exact HB.out | apply below_alloc | apply pw_below_drewN | apply below_drew1) | exact HB.out))) : w.heap.size ≤ gb237)); have n3_ := Aside0.mk ((by rw [hg]; exact (below_size (by repeat (first | (with_reducible first | exact HB.out | apply below_alloc | apply pw_below_drewN | apply below_drew1) | exact HB.out))) : w.heap.size ≤ gb237)); clear HB; have HB := n0_; have BK237 := n1_; have GW237 := n2_; have GE237 := n3_; clear n0_ n1_ n2_ n3_; clear hb hbox hg) | ((with_reducible refine gate_dst (N := 7) rfl ?_); refine box_event ?hg (N := 7) ?hd (cs := #[.slice none 0 0]) (t := 55) ?hr ?_; (case hd => rfl); (case hg => rfl); (case hr => first | (go_simp; done) | (go_simp; rfl)); intro gb238 hg w5 hbox hb; have n0_ := Aside0.mk (blk_below (g := gb237) (o := .cells #[.slice none 0 0] 55 (0, 0)) (by (with_reducible repeat (first | refine blk_drewN ?_ _ | refine blk_drew ?_ | refine blk_alloc ?_ _)); exact BK237.out) hb); have n1_ := Aside0.mk (below_step (by repeat (first | (with_reducible first | exact HB.out | apply below_alloc | apply pw_below_drewN | apply below_drew1 | refine below_set ?_ GE237.out) | exact HB.out)) hb); have n2_ := Aside0.mk (hbox); have n3_ := Aside0.mk ((by rw [hg]; exact (below_size (by repeat (first | (with_reducible first | exact HB.out | apply below_alloc | apply pw_below_drewN | apply below_drew1 | refine below_set ?_ GE237.out) | exact HB.out))) : w.heap.size ≤ gb238)); have n4_ := Aside0.mk ((by rw [hg]; exact (below_size (by repeat (first | (with_reducible first | exact HB.out | apply below_alloc | apply pw_below_drewN | apply below_drew1 | refine below_set ?_ GE237.out) | exact HB.out))) : w.heap.size ≤ gb238)); have n5_ := Aside0.mk ((by rw [hg]; exact Nat.ne_of_lt (blk_lt (g := gb237) (o := .cells #[.slice none 0 0] 55 (0, 0)) (by (with_reducible repeat (first | refine blk_drewN ?_ _ | refine blk_drew ?_ | refine blk_alloc ?_ _)); exact BK237.out)) : gb237 ≠ gb238)); have n6_ := Aside0.mk ((by rw [hg]; exact Nat.ne_of_gt (blk_lt (g := gb237) (o := .cells #[.slice none 0 0] 55 (0, 0)) (by (with_reducible repeat (first | refine blk_drewN ?_ _ | refine blk_drew ?_ | refine blk_alloc ?_ _)); exact BK237.out)) : gb238 ≠ gb237)); clear BK237; clear HB; have BK237 := n0_; have HB := n1_; have BK238 := n2_; have GW238 := n3_; have GE238 := n4_; have NB237_238 := n5_; have NB238_237 := n6_; clear n0_ n1_ n2_ n3_ n4_ n5_ n6_; clear hb hbox hg; have hnb6 := NB238_237.out; have hnc6 := NB237_238.out; have hcz7_0 : w5.cell? ⟨gb238, 0, none⟩ = some (.slice none 0 0) := (blk_cell BK238.out 0).trans rfl; have hfz7_0 := blk_frozen BK238.out 0))
  go_loopg [13] k (fun kq v13 w' => ∃ (x13_1 : Int) (x239000_1 : List (S52)) (u239000 : Value), v13 = .int .i64 x13_1 ∧ Aside0 (recantref10_Behind.l0 kq l0 a2 l1 (l1.length : Int) x13_1 x239000_1 = some r) ∧ Aside0 (kq ≤ k) ∧ Aside0 (Kd.V k52 52 w' w.heap.size (fun k_ => (w.heap.size ≤ k_) ∧ k_ ≠ gb237 ∧ k_ ≠ gb238) u239000 x239000_1) ∧ Aside0 (w'.heap[gb237]? = some (.cells #[(.slice none 0 0)] 55 (0, 0))) ∧ Aside0 (w'.heap[gb238]? = some (.cells #[u239000] 55 (0, 0))) ∧ Aside0 (Below w.heap.size w w'))
  case atStart => exact ⟨(0), (([] : List (S52))), (.slice none 0 0), (by first | rfl | (simp; done) | (simp [*]; done)), H', ⟨Nat.le_refl _⟩, ⟨(by exact Kd.V_nil _ _ _ _ _)⟩, ⟨by (with_reducible repeat (first | refine blk_drewN ?_ _ | refine blk_drew ?_ | refine blk_alloc ?_ _)); refine blk_far ?_ NB237_238.out _; (with_reducible repeat (first | refine blk_drewN ?_ _ | refine blk_drew ?_ | refine blk_alloc ?_ _)); exact BK237.out⟩, ⟨by (with_reducible repeat (first | refine blk_drewN ?_ _ | refine blk_drew ?_ | refine blk_alloc ?_ _)); refine blk_put (cs := #[.slice none 0 0]) ?_ 0 _ rfl; (with_reducible repeat (first | refine blk_drewN ?_ _ | refine blk_drew ?_ | refine blk_alloc ?_ _)); exact BK238.out⟩, ⟨by repeat (first | (with_reducible first | exact HB.out | apply below_alloc | apply pw_below_drewN | apply below_drew1 | refine below_set ?_ GE237.out | refine below_set ?_ GE238.out) | exact HB.out)⟩⟩
  case round =>
    clear H'
    try clear c1
    try clear p2
    try clear c4
    try clear c6
    try clear hcz7_0
    try clear hfz7_0
    obtain ⟨x13_1, x239000_1, u239000, rfl, HA, HK1, HO_239000, BK237, BK238, HB⟩ := hrel
    cases gk with
    | zero => exact absurd HA.out (by simp [recantref10_Behind.l0])
    | succ k1 =>
      have H := HA.out
      clear HA
      simp only [recantref10_Behind.l0] at H
      by_cases c8 : x13_1 < (l1.length : Int)
      · rw [if_pos c8] at H
        have c8b0 : decide (x13_1 < (l1.length : Int)) = true := decide_eq_true c8
        clear c8
        by_cases c9 : 0 ≤ x13_1
        · rw [if_pos c9] at H
          have c9b0 : decide (0 ≤ x13_1) = true := decide_eq_true c9
          clear c9
          by_cases c10 : x13_1 < (l1.length : Int)
          · rw [if_pos c10] at H
            have c10b0 : decide (x13_1 < (l1.length : Int)) = true := decide_eq_true c10
            clear c10
            replace H := Option.bind_eq_some_iff.mp H
            obtain ⟨t240, A110, H⟩ := H
            replace H : (if t240 = true then (if 0 ≤ (rd l1 x13_1) then (if (rd l1 x13_1) < (l0.length : Int) then ((recantref10_With.f k1 x239000_1 ((rd_T34 l0 (rd l1 x13_1)).f4)).bind fun t242 => (recantref10_Behind.l0 k1 l0 a2 l1 (l1.length : Int) (wrap64 (x13_1 + 1)) t242)) else (none)) else (none)) else (recantref10_Behind.l0 k1 l0 a2 l1 (l1.length : Int) (wrap64 (x13_1 + 1)) x239000_1)) = some r := H
            have A11 := Aside0.mk A110
            clear A110
            by_cases c12 : t240 = true
            · subst c12
              have H1 : (if 0 ≤ (rd l1 x13_1) then (if (rd l1 x13_1) < (l0.length : Int) then ((recantref10_With.f k1 x239000_1 ((rd_T34 l0 (rd l1 x13_1)).f4)).bind fun t242 => (recantref10_Behind.l0 k1 l0 a2 l1 (l1.length : Int) (wrap64 (x13_1 + 1)) t242)) else (none)) else (none)) = some r := by rw [if_pos rfl] at H; exact H
              clear H
              have H := H1
              clear H1
              by_cases c13 : 0 ≤ (rd l1 x13_1)
              · rw [if_pos c13] at H
                have c13b0 : decide (0 ≤ (rd l1 x13_1)) = true := decide_eq_true c13
                clear c13
                by_cases c14 : (rd l1 x13_1) < (l0.length : Int)
                · rw [if_pos c14] at H
                  have c14b0 : decide ((rd l1 x13_1) < (l0.length : Int)) = true := decide_eq_true c14
                  clear c14
                  replace H := Option.bind_eq_some_iff.mp H
                  obtain ⟨t242, A150, H⟩ := H
                  replace H : (recantref10_Behind.l0 k1 l0 a2 l1 (l1.length : Int) (wrap64 (x13_1 + 1)) t242) = some r := H
                  have A15 := Aside0.mk A150
                  clear A150
                  have H' := Aside0.mk H
                  clear H
                  have p239 : 0 ≤ (x13_1 : Int) := of_decide_eq_true (by first | (with_reducible assumption) | assumption)
                  have q239 : x13_1 < (l1.length : Int) := of_decide_eq_true (by first | (with_reducible assumption) | assumption)
                  obtain ⟨ad239, e239, hx239_0⟩ := Kd.at_int HR1.out x13_1 p239 q239
                  cases e239
                  replace hx239_0 := (HB.out.cell (World.block_lt_of_cell? w _ hx239_0)).trans hx239_0
                  replace p239 := eq_true p239
                  replace q239 := eq_true q239
                  try go_wp2_with (first | ((with_reducible refine gate_callee (f := 93) rfl ?_); refine goesL_ (some 19) rfl rfl Tryd.func93 (by kernel_rfl) rfl #[.int .u32 a2, .int .i64 (rd l1 x13_1)] rfl (by (try simp only [List.map_toArray, List.map_cons, List.map_nil]); first | done | rfl | (simp only [List.length_drop, List.length_take]; rfl)) ?_; (with_reducible refine (recantref09_Bit.calls k1 a2 (rd l1 x13_1) true _ A11.out).mono ?_); rintro e w' ⟨rfl, ⟨nd, rfl⟩⟩; refine ⟨_, rfl, ?_⟩; (try (rw [drewN_self wr]; generalize hq_ : World.drewN wr _ = wr; have n0_ : Aside0 (Kd.V k52 52 wr w.heap.size (fun k_ => (w.heap.size ≤ k_) ∧ k_ ≠ gb237 ∧ k_ ≠ gb238) u239000 x239000_1) := ⟨by rw [← hq_]; exact (by (with_reducible repeat (first | apply Kd.V_alloc | apply Kd.V_drewN | apply Kd.V_drew)); exact HO_239000.out)⟩; have n1_ : Aside0 (wr.heap[gb237]? = some (.cells #[.slice none 0 0] 55 (0, 0))) := ⟨by rw [← hq_]; exact (by (with_reducible repeat (first | refine blk_drewN ?_ _ | refine blk_drew ?_ | refine blk_alloc ?_ _)); exact BK237.out)⟩; have n2_ : Aside0 (wr.heap[gb238]? = some (.cells #[u239000] 55 (0, 0))) := ⟨by rw [← hq_]; exact (by (with_reducible repeat (first | refine blk_drewN ?_ _ | refine blk_drew ?_ | refine blk_alloc ?_ _)); exact BK238.out)⟩; have n3_ : Aside0 (Below w.heap.size w wr) := ⟨by rw [← hq_]; exact (by repeat (first | (with_reducible first | exact HB.out | apply below_alloc | apply pw_below_drewN | apply below_drew1 | refine below_set ?_ GE237.out | refine below_set ?_ GE238.out) | exact HB.out))⟩; clear HO_239000 BK237 BK238 HB hq_; have HO_239000 := n0_; have BK237 := n1_; have BK238 := n2_; have HB := n3_; clear n0_ n1_ n2_ n3_))))
                  have n0_ := Aside0.mk (Kd.V_drew HO_239000.out)
                  have n1_ := Aside0.mk (blk_drew BK237.out)
                  have n2_ := Aside0.mk (blk_drew BK238.out)
                  have n3_ := Aside0.mk (below_drew1 HB.out)
                  clear HO_239000
                  clear BK237
                  clear BK238
                  clear HB
                  have HO_239000 := n0_
                  have BK237 := n1_
                  have BK238 := n2_
                  have HB := n3_
                  clear n0_ n1_ n2_ n3_
                  have p241 : 0 ≤ ((rd l1 x13_1) : Int) := of_decide_eq_true (by first | (with_reducible assumption) | assumption)
                  have q241 : (rd l1 x13_1) < (l0.length : Int) := of_decide_eq_true (by first | (with_reducible assumption) | assumption)
                  obtain ⟨ad241, A241_4, c241_4, e241, hx241_0, hx241_1, hx241_2, hx241_3, hx241_4, hl241_4, hi241_4⟩ := at_T34 HR0.out (rd l1 x13_1) p241 q241
                  have hw241_4 := hx241_4
                  have hw241_3 := hx241_3
                  have hw241_2 := hx241_2
                  have hw241_1 := hx241_1
                  have hw241_0 := hx241_0
                  cases e241
                  replace hx241_0 := (HB.out.cell (World.block_lt_of_cell? w _ hx241_0)).trans hx241_0
                  replace hx241_1 := (HB.out.cell (World.block_lt_of_cell? w _ hx241_1)).trans hx241_1
                  replace hx241_2 := (HB.out.cell (World.block_lt_of_cell? w _ hx241_2)).trans hx241_2
                  replace hx241_3 := (HB.out.cell (World.block_lt_of_cell? w _ hx241_3)).trans hx241_3
                  replace hx241_4 := (HB.out.cell (World.block_lt_of_cell? w _ hx241_4)).trans hx241_4
                  have HR241_4 := Aside0.mk hi241_4
                  have HC241_4 := Aside0.mk hl241_4
                  clear hi241_4 hl241_4
                  replace p241 := eq_true p241
                  replace q241 := eq_true q241
                  obtain ⟨Ao17, co17, eo17⟩ := Kd.V_slice HO_239000.out
                  (first | subst eo17 | (injection eo17 with f1_ f2_ f3_; have f4_ := f1_.symm; have f5_ := f3_.symm; clear f1_ f2_ f3_; subst f4_; subst f5_))
                  refine start_ (n := 8) (S := fun w' => w'.cell? ⟨gb238, 0, none⟩ = some (.slice Ao17 x239000_1.length co17) ∧ w'.cell? (ad241.add (((rd l1 x13_1)).toNat * 5)) = some (.int .i64 ((rd_T34 l0 (rd l1 x13_1)).f0)) ∧ w'.cell? ⟨(ad241.add (((rd l1 x13_1)).toNat * 5)).block, (ad241.add (((rd l1 x13_1)).toNat * 5)).off + 1, none⟩ = some (.int .i64 ((rd_T34 l0 (rd l1 x13_1)).f1)) ∧ w'.cell? ⟨(ad241.add (((rd l1 x13_1)).toNat * 5)).block, (ad241.add (((rd l1 x13_1)).toNat * 5)).off + 2, none⟩ = some (.int .i64 ((rd_T34 l0 (rd l1 x13_1)).f2)) ∧ w'.cell? ⟨(ad241.add (((rd l1 x13_1)).toNat * 5)).block, (ad241.add (((rd l1 x13_1)).toNat * 5)).off + 3, none⟩ = some (.int .i64 ((rd_T34 l0 (rd l1 x13_1)).f3)) ∧ w'.cell? ⟨(ad241.add (((rd l1 x13_1)).toNat * 5)).block, (ad241.add (((rd l1 x13_1)).toNat * 5)).off + 4, none⟩ = some (.slice A241_4 ((rd_T34 l0 (rd l1 x13_1)).f4).length c241_4)) (ds := [7]) #[false, false, false, false, false, false, false, false] (by kernel_rfl) rfl rfl ⟨(blk_cell BK238.out 0).trans rfl, ((HB.out.cell (World.block_lt_of_cell? w _ hw241_0)).trans hw241_0), ((HB.out.cell (World.block_lt_of_cell? w _ hw241_1)).trans hw241_1), ((HB.out.cell (World.block_lt_of_cell? w _ hw241_2)).trans hw241_2), ((HB.out.cell (World.block_lt_of_cell? w _ hw241_3)).trans hw241_3), ((HB.out.cell (World.block_lt_of_cell? w _ hw241_4)).trans hw241_4)⟩ (fun hHeld => ?_); refine with_tabW recantref10_Behind.tab6 recantref10_Behind.bits6 (fun HT_ HW_ => ?_)
                  generalize wr.drew = w16 at HO_239000 BK237 BK238 HB HR241_4 hx241_0 hx241_1 hx241_2 hx241_3 hx241_4 hHeld ⊢
                  refine pure_ (i := 1) (N := some 21) (v := ?_) (a' := ?_) #[false, true, false, false, false, false, false, false] rfl rfl (any_of HT_.out (by kernel_rfl)) (fun _ _ _ h => h) (Or.inl ⟨by rfl, ?_⟩) ?_ ?_
                  rotate_left
                  · intro w'
                    go_simp
                    with_reducible rfl
                  rotate_left
                  · simp only [Act.put, List.setIfInBounds_toArray, List.set_cons_zero, List.set_cons_succ, i64_w, i32_w]
                    rfl
                  refine pure_ (i := 2) (N := some 22) (v := ?_) (a' := ?_) #[false, true, true, false, false, false, false, false] rfl rfl (any_of HT_.out (by kernel_rfl)) (fun _ _ _ h => h) (Or.inl ⟨by rfl, ?_⟩) ?_ ?_
                  rotate_left
                  · intro w'
                    go_simp
                    with_reducible rfl
                  rotate_left
                  · simp only [Act.put, List.setIfInBounds_toArray, List.set_cons_zero, List.set_cons_succ, i64_w, i32_w]
                    rfl
                  refine pure_ (i := 3) (N := some 23) (v := ?_) (a' := ?_) #[false, true, true, true, false, false, false, false] rfl rfl (any_of HT_.out (by kernel_rfl)) (fun _ _ _ h => h) (Or.inl ⟨by rfl, ?_⟩) ?_ ?_
                  rotate_left
                  · intro w'
                    go_simp
                    with_reducible rfl
                  rotate_left
                  · simp only [Act.put, List.setIfInBounds_toArray, List.set_cons_zero, List.set_cons_succ, i64_w, i32_w]
                    rfl
                  refine pure_ (i := 4) (N := some 24) (v := ?_) (a' := ?_) #[false, true, true, true, true, false, false, false] rfl rfl (any_of HT_.out (by kernel_rfl)) (fun _ _ _ h => h) (Or.inl ⟨by rfl, ?_⟩) ?_ ?_
                  rotate_left
                  · intro w'
                    go_simp
                    with_reducible rfl
                  rotate_left
                  · simp only [Act.put, List.setIfInBounds_toArray, List.set_cons_zero, List.set_cons_succ, i64_w, i32_w]
                    rfl
                  refine take_ (i := 0) (N := some 20) (v := ?_) (a' := ?_) #[true, true, true, true, true, false, false, false] rfl rfl (take_ofW HT_.out HW_.out (by kernel_rfl)) (fun _ _ _ h => h) (Or.inl ⟨by rfl, ?_⟩) hHeld ?_ ?_
                  rotate_left
                  · rintro w' ⟨s0, s1, s2, s3, s4, s5⟩
                    go_simp
                    with_reducible rfl
                  rotate_left
                  · simp only [Act.put, List.setIfInBounds_toArray, List.set_cons_zero, List.set_cons_succ, i64_w, i32_w]
                    rfl
                  refine take_ (i := 5) (N := some 25) (v := ?_) (a' := ?_) #[true, true, true, true, true, true, false, false] rfl rfl (take_ofW HT_.out HW_.out (by kernel_rfl)) (fun _ _ _ h => h) (Or.inl ⟨by rfl, ?_⟩) hHeld ?_ ?_
                  rotate_left
                  · rintro w' ⟨s0, s1, s2, s3, s4, s5⟩
                    go_simp
                    with_reducible rfl
                  rotate_left
                  · simp only [Act.put, List.setIfInBounds_toArray, List.set_cons_zero, List.set_cons_succ, i64_w, i32_w]
                    rfl
                  refine one_ (i := 6) (N := some 26) #[true, true, true, true, true, true, true, false] rfl rfl (one_of HT_.out (by kernel_rfl)) (by decide) (fun K hK => ?_)
                  refine goes_ Tryd.func89 (by kernel_rfl) rfl #[.agg #[.slice Ao17 x239000_1.length co17], .slice A241_4 ((rd_T34 l0 (rd l1 x13_1)).f4).length c241_4] (by rfl) rfl rfl (by (try simp only [List.map_toArray, List.map_cons, List.map_nil]); first | done | rfl | (simp only [List.length_drop, List.length_take]; rfl)) ?_
                  with_reducible refine (recantref10_With.calls k1 (fun k_ => ((w.heap.size ≤ k_) ∧ (k_ ≠ gb237 ∧ k_ ≠ gb238))) _ _ x239000_1 _ _ ((rd_T34 l0 (rd l1 x13_1)).f4) t242 _ ?side1 ?side2 ?side3 A15.out).mono ?_
                  (case side1 => exact HO_239000.out)
                  (case side2 => repeat (first | exact (Kd.C_below HR241_4.out HB.out) | (with_reducible refine Kd.C_alloc ?_ _) | (with_reducible refine Kd.C_drewN ?_ _) | (with_reducible refine Kd.C_drew ?_)))
                  (case side3 => exact HC241_4.out)
                  rintro e w18 ⟨v243, rfl, ho0, hb⟩
                  refine ⟨_, rfl, ?_⟩
                  have n0_ := Aside0.mk (Kd.V_below (by (with_reducible repeat (first | apply Kd.V_alloc | apply Kd.V_drewN | apply Kd.V_drew)); exact HO_239000.out) hb)
                  have n1_ := Aside0.mk (Kd.V_lower (Kd.V_mono (ok' := fun k_ => (w.heap.size ≤ k_) ∧ k_ ≠ gb237 ∧ k_ ≠ gb238) ho0 (fun k_ hk_ => ⟨Or.elim hk_ (fun hs_ => hs_.1) (fun hn_ => (Nat.le_trans (below_size (by repeat (first | (with_reducible first | exact HB.out | apply below_alloc | apply pw_below_drewN | apply below_drew1 | refine below_set ?_ GE237.out | refine below_set ?_ GE238.out) | exact HB.out))) hn_)), Or.elim hk_ (fun hs_ => hs_.2.1) (fun hn_ => (Kd.freshB (g := gb237) (o := .cells #[.slice none 0 0] 55 (0, 0)) (by (with_reducible repeat (first | refine blk_drewN ?_ _ | refine blk_drew ?_ | refine blk_alloc ?_ _)); exact BK237.out) k_ hn_)), Or.elim hk_ (fun hs_ => hs_.2.2) (fun hn_ => (Kd.freshB (g := gb238) (o := .cells #[.slice Ao17 x239000_1.length co17] 55 (0, 0)) (by (with_reducible repeat (first | refine blk_drewN ?_ _ | refine blk_drew ?_ | refine blk_alloc ?_ _)); exact BK238.out) k_ hn_))⟩)) (below_size (by repeat (first | (with_reducible first | exact HB.out | apply below_alloc | apply pw_below_drewN | apply below_drew1 | refine below_set ?_ GE237.out | refine below_set ?_ GE238.out) | exact HB.out))))
                  have n2_ := Aside0.mk (blk_below (g := gb237) (o := .cells #[.slice none 0 0] 55 (0, 0)) (by (with_reducible repeat (first | refine blk_drewN ?_ _ | refine blk_drew ?_ | refine blk_alloc ?_ _)); exact BK237.out) hb)
                  have n3_ := Aside0.mk (blk_below (g := gb238) (o := .cells #[.slice Ao17 x239000_1.length co17] 55 (0, 0)) (by (with_reducible repeat (first | refine blk_drewN ?_ _ | refine blk_drew ?_ | refine blk_alloc ?_ _)); exact BK238.out) hb)
                  have n4_ := Aside0.mk (below_step (by repeat (first | (with_reducible first | exact HB.out | apply below_alloc | apply pw_below_drewN | apply below_drew1 | refine below_set ?_ GE237.out | refine below_set ?_ GE238.out) | exact HB.out)) hb)
                  clear HO_239000
                  clear BK237
                  clear BK238
                  clear HB
                  have HO_239000 := n0_
                  have HO244 := n1_
                  have BK237 := n2_
                  have BK238 := n3_
                  have HB := n4_
                  clear n0_ n1_ n2_ n3_ n4_
                  (try clear hb)
                  (try clear hb2)
                  (try clear hk)
                  (try clear hi)
                  (try clear ho0)
                  obtain ⟨Ao19, co19, eo19⟩ := Kd.V_slice HO244.out
                  (first | subst eo19 | (injection eo19 with f1_ f2_ f3_; have f4_ := f1_.symm; have f5_ := f3_.symm; clear f1_ f2_ f3_; subst f4_; subst f5_))
                  refine hK.out _ _ ⟨(blk_cell BK238.out 0).trans rfl, ((HB.out.cell (World.block_lt_of_cell? w _ hw241_0)).trans hw241_0), ((HB.out.cell (World.block_lt_of_cell? w _ hw241_1)).trans hw241_1), ((HB.out.cell (World.block_lt_of_cell? w _ hw241_2)).trans hw241_2), ((HB.out.cell (World.block_lt_of_cell? w _ hw241_3)).trans hw241_3), ((HB.out.cell (World.block_lt_of_cell? w _ hw241_4)).trans hw241_4)⟩ (fun hHeld => ?_)
                  clear hK K
                  refine norm_ (a' := ?_) ?_ ?_
                  rotate_left
                  · show Act.put _ (some 26) _ = _
                    simp only [Act.put, List.setIfInBounds_toArray, List.set_cons_zero, List.set_cons_succ, i64_w, i32_w]
                    rfl
                  refine last_ (i := 7) (N := none) #[true, true, true, true, true, true, true, true] rfl rfl (one_of HT_.out (by kernel_rfl)) (by decide) (fun K hK => ?_)
                  have hs20 : w18.cell? ⟨gb238, 0, none⟩ = some (.slice Ao17 x239000_1.length co17) := (blk_cell BK238.out 0).trans rfl
                  have hfs20 := blk_frozen BK238.out 0
                  have hns20_0 := NB237_238.out
                  have hms20_0 := NB238_237.out
                  refine skip_ (w1 := ?_) (by rfl) rfl ?_ ?_
                  rotate_left
                  · go_simp
                    rfl
                  refine hK.out _ _ ?_
                  clear hK K
                  refine done_ (done_of HT_.out (by kernel_rfl)) ?_
                  try go_wp2
                  go_roundg k1
                  case measure => have := HK1.out; omega
                  case rel => exact ⟨(wrap64 (x13_1 + 1)), (t242), (.slice Ao19 t242.length co19), (by first | rfl | (simp; done) | (simp [*]; done)), H', ⟨by have := HK1.out; omega⟩, ⟨by (with_reducible repeat (first | apply Kd.V_alloc | apply Kd.V_drewN | apply Kd.V_drew)); exact Kd.V_mono (Kd.V_far (p := ⟨gb238, 0, none⟩) (Kd.V_mono HO244.out (fun k_ hk => (⟨hk, hk.2.2⟩ : _ ∧ k_ ≠ gb238))) (fun _ hk => hk.2) (.slice Ao19 t242.length co19)) (fun _ hk => ⟨hk.1.1, ⟨hk.1.2.1, hk.1.2.2⟩⟩)⟩, ⟨by (with_reducible repeat (first | refine blk_drewN ?_ _ | refine blk_drew ?_ | refine blk_alloc ?_ _)); refine blk_far ?_ NB237_238.out _; (with_reducible repeat (first | refine blk_drewN ?_ _ | refine blk_drew ?_ | refine blk_alloc ?_ _)); exact BK237.out⟩, ⟨by (with_reducible repeat (first | refine blk_drewN ?_ _ | refine blk_drew ?_ | refine blk_alloc ?_ _)); refine blk_put (cs := #[.slice Ao17 x239000_1.length co17]) ?_ 0 _ rfl; (with_reducible repeat (first | refine blk_drewN ?_ _ | refine blk_drew ?_ | refine blk_alloc ?_ _)); exact BK238.out⟩, ⟨by repeat (first | (with_reducible first | exact HB.out | apply below_alloc | apply pw_below_drewN | apply below_drew1 | refine below_set ?_ GE237.out | refine below_set ?_ GE238.out) | exact HB.out)⟩⟩
                · rw [if_neg c14] at H
                  exact absurd H (by simp)
              · rw [if_neg c13] at H
                exact absurd H (by simp)
            · replace c12 := Bool.eq_false_iff.mpr c12
              subst c12
              have H1 : (recantref10_Behind.l0 k1 l0 a2 l1 (l1.length : Int) (wrap64 (x13_1 + 1)) x239000_1) = some r := by rw [if_neg (show ¬ (false = true) by decide)] at H; exact H
              clear H
              have H := H1
              clear H1
              have H' := Aside0.mk H
              clear H
              have p239 : 0 ≤ (x13_1 : Int) := of_decide_eq_true (by first | (with_reducible assumption) | assumption)
              have q239 : x13_1 < (l1.length : Int) := of_decide_eq_true (by first | (with_reducible assumption) | assumption)
              obtain ⟨ad239, e239, hx239_0⟩ := Kd.at_int HR1.out x13_1 p239 q239
              cases e239
              replace hx239_0 := (HB.out.cell (World.block_lt_of_cell? w _ hx239_0)).trans hx239_0
              replace p239 := eq_true p239
              replace q239 := eq_true q239
              go_wp2_with (first | ((with_reducible refine gate_callee (f := 93) rfl ?_); refine goesL_ (some 19) rfl rfl Tryd.func93 (by kernel_rfl) rfl #[.int .u32 a2, .int .i64 (rd l1 x13_1)] rfl (by (try simp only [List.map_toArray, List.map_cons, List.map_nil]); first | done | rfl | (simp only [List.length_drop, List.length_take]; rfl)) ?_; (with_reducible refine (recantref09_Bit.calls k1 a2 (rd l1 x13_1) false _ A11.out).mono ?_); rintro e w' ⟨rfl, ⟨nd, rfl⟩⟩; refine ⟨_, rfl, ?_⟩))
              go_roundg k1
              case measure => have := HK1.out; omega
              case rel => exact ⟨(wrap64 (x13_1 + 1)), (x239000_1), (u239000), (by first | rfl | (simp; done) | (simp [*]; done)), H', ⟨by have := HK1.out; omega⟩, ⟨by (with_reducible repeat (first | apply Kd.V_alloc | apply Kd.V_drewN | apply Kd.V_drew)); exact HO_239000.out⟩, ⟨by (with_reducible repeat (first | refine blk_drewN ?_ _ | refine blk_drew ?_ | refine blk_alloc ?_ _)); exact BK237.out⟩, ⟨by (with_reducible repeat (first | refine blk_drewN ?_ _ | refine blk_drew ?_ | refine blk_alloc ?_ _)); exact BK238.out⟩, ⟨by repeat (first | (with_reducible first | exact HB.out | apply below_alloc | apply pw_below_drewN | apply below_drew1 | refine below_set ?_ GE237.out | refine below_set ?_ GE238.out) | exact HB.out)⟩⟩
          · rw [if_neg c10] at H
            exact absurd H (by simp)
        · rw [if_neg c9] at H
          exact absurd H (by simp)
      · rw [if_neg c8] at H
        have c8b0 : decide (x13_1 < (l1.length : Int)) = false := decide_eq_false c8
        clear c8
        obtain rfl := Option.some.inj H
        have hnb21 := NB238_237.out
        have hnc21 := NB237_238.out
        have hcz22_0 : wr.cell? ⟨gb238, 0, none⟩ = some (u239000) := (blk_cell BK238.out 0).trans rfl
        have hfz22_0 := blk_frozen BK238.out 0
        obtain ⟨Ao23, co23, eo23⟩ := Kd.V_slice HO_239000.out
        subst eo23
        have hcz24_0 : wr.cell? ⟨gb237, 0, none⟩ = some (.slice none 0 0) := (blk_cell BK237.out 0).trans rfl
        have hfz24_0 := blk_frozen BK237.out 0
        go_wp2
        refine bodyPost_ret (results_cell_row rfl _ _ gb237 55 #[.slice Ao23 x239000_1.length co23] (0, 0) _ rfl (by (with_reducible repeat (first | refine blk_drewN ?_ _ | refine blk_drew ?_ | refine blk_alloc ?_ _)); refine blk_put (cs := #[.slice none 0 0]) ?_ 0 _ rfl; (with_reducible repeat (first | refine blk_drewN ?_ _ | refine blk_drew ?_ | refine blk_alloc ?_ _)); exact BK237.out) Tryd.underlying55 rfl (by kernel_rfl)) rfl ?_
        exact ⟨_, by first | rfl | (simp [errW_none, errW_some] <;> rfl) | (simp [*, errW_none, errW_some] <;> rfl), by (with_reducible repeat (first | apply Kd.V_alloc | apply Kd.V_drewN | apply Kd.V_drew)); exact Kd.V_mono (Kd.V_far (p := ⟨gb237, 0, none⟩) (Kd.V_mono HO_239000.out (fun k_ hk => (⟨hk, hk.2.1⟩ : _ ∧ k_ ≠ gb237))) (fun _ hk => hk.2) (.slice Ao23 x239000_1.length co23)) (fun _ hk => hk.1.1), by repeat (first | (with_reducible first | exact HB.out | apply below_alloc | apply pw_below_drewN | apply below_drew1 | refine below_set ?_ GE237.out | refine below_set ?_ GE238.out) | exact HB.out)⟩

end Go.Proofs.YtkjkceeopkfniaaDoor.P

-- Written by gprint.py, a program of this session's: the kit's print with given functions beside. Not trusted: Lean checks it.
import Derived.Test.YthkpocgbinmeiaaP0
import Derived.Test.YthkpocgbinmeiaaP4
namespace Go.Proofs.Ythkpocgbinmeiaa.P
open Go.RowKit Go.Proofs.YthkpocgbinmeiaaW.PrintWords Go.Proofs.YthkpocgbinmeiaaW.PrintLast Go.Proofs.YthkpocgbinmeiaaW.PrintMore
attribute [local go_sem] max2_int min2_int max_two min_two max_three min_three max_four min_four   -- for this text's walks alone
set_option linter.unusedVariables false
set_option linter.unusedSimpArgs false

/-! ### recantref04_body: function 47 -/
mutual
def recantref04_body.j0 : Nat → List Int → Int → Int → Bool → Int → Int → Int → Int → Int → Int → Int → Option ((List (S76)) × Int × Int)
  | 0, _, _, _, _, _, _, _, _, _, _, _ => none
  | k + 1, x0, x1, x2, x49, x149000, x149001, x149002, x149003, x153000, x153001, x153002 => if x49 = true then (some (([] : List (S76)), wrap64 (x1 + 1), 5)) else ((recantref02_Variable.f x149000).bind fun t157 => (if t157 = true then ((recantref04_most.f k x0 x153000 x153001 x153002 x2 7).bind fun bt158 => (recantref04_body.j1 k x0 x2 x149000 x149001 (wrap64 (bt158.1)) x149003 bt158.1 bt158.2.1 bt158.2.2)) else (recantref04_body.j1 k x0 x2 x149000 x149001 x149002 x149003 x153000 x153001 x153002)))
def recantref04_body.j1 : Nat → List Int → Int → Int → Int → Int → Int → Int → Int → Int → Option ((List (S76)) × Int × Int)
  | 0, _, _, _, _, _, _, _, _, _ => none
  | k + 1, x0, x2, x149000, x149001, x149002, x149003, x153000, x153001, x153002 => (recantref02_Value.f x149000).bind fun t161 => (if t161 = true then ((recantref04_signed.f k x0 x153000 x153001 x153002 x2).bind fun bt162 => ((recantref03_Zag.f bt162.1).bind fun t165 => (recantref04_body.j2 k x2 x149000 x149001 x149002 t165 bt162.1 bt162.2.1 bt162.2.2))) else (recantref04_body.j2 k x2 x149000 x149001 x149002 x149003 x153000 x153001 x153002))
def recantref04_body.j2 : Nat → Int → Int → Int → Int → Int → Int → Int → Int → Option ((List (S76)) × Int × Int)
  | 0, _, _, _, _, _, _, _, _ => none
  | k + 1, x2, x149000, x149001, x149002, x149003, x153000, x153001, x153002 => if x153002 = 0 then (if x153001 = x2 then (some ((([(⟨x149000, x149001, x149002, x149003⟩ : S76)] : List (S76))), x2, 0)) else (some (([] : List (S76)), x153001, 2))) else (some (([] : List (S76)), x153001, x153002))
end
def recantref04_body.f (k : Nat) (l0 : List Int) (a1 : Int) (a2 : Int) (l3 : List (S76)) : Option ((List (S76)) × Int × Int) := if 0 ≤ a1 then (if a1 < (l0.length : Int) then (if (wrap64 (rd l0 a1)) > 9 then (some (([] : List (S76)), a1, 2)) else ((recantref04_most.f k l0 0 (wrap64 (a1 + 1)) 0 a2 9999).bind fun bt149 => ((recantref02_Names.f k l3).bind fun t153 => (if bt149.2.2 = 0 then (if (t153.length : Int) = 6 then ((recantref02_Has.f k t153 (wrap64 (bt149.1))).bind fun t156 => (recantref04_body.j0 k l0 a1 a2 (!t156) (wrap64 (rd l0 a1)) (wrap64 (bt149.1)) 0 0 bt149.1 bt149.2.1 bt149.2.2)) else (recantref04_body.j0 k l0 a1 a2 false (wrap64 (rd l0 a1)) (wrap64 (bt149.1)) 0 0 bt149.1 bt149.2.1 bt149.2.2)) else (recantref04_body.j0 k l0 a1 a2 false (wrap64 (rd l0 a1)) (wrap64 (bt149.1)) 0 0 bt149.1 bt149.2.1 bt149.2.2))))) else (none)) else (none)
theorem recantref04_body.mono_l : ∀ k, (∀ y0 y1 y2 y3 y4 y5 y6 y7 y8 y9 y10, LeO (recantref04_body.j0 k y0 y1 y2 y3 y4 y5 y6 y7 y8 y9 y10) (recantref04_body.j0 (k + 1) y0 y1 y2 y3 y4 y5 y6 y7 y8 y9 y10)) ∧ (∀ y0 y1 y2 y3 y4 y5 y6 y7 y8, LeO (recantref04_body.j1 k y0 y1 y2 y3 y4 y5 y6 y7 y8) (recantref04_body.j1 (k + 1) y0 y1 y2 y3 y4 y5 y6 y7 y8)) ∧ (∀ y0 y1 y2 y3 y4 y5 y6 y7, LeO (recantref04_body.j2 k y0 y1 y2 y3 y4 y5 y6 y7) (recantref04_body.j2 (k + 1) y0 y1 y2 y3 y4 y5 y6 y7))
  | 0 => ⟨fun _ _ _ _ _ _ _ _ _ _ _ r h => by simp [recantref04_body.j0] at h, fun _ _ _ _ _ _ _ _ _ r h => by simp [recantref04_body.j1] at h, fun _ _ _ _ _ _ _ _ r h => by simp [recantref04_body.j2] at h⟩
  | k + 1 => by
    obtain ⟨ih0, ih1, ih2⟩ := recantref04_body.mono_l k
    refine ⟨?_, ?_, ?_⟩
    · intro y0 y1 y2 y3 y4 y5 y6 y7 y8 y9 y10
      unfold recantref04_body.j0
      repeat' first
      | (with_reducible exact ih0 _ _ _ _ _ _ _ _ _ _ _)
      | (with_reducible exact ih1 _ _ _ _ _ _ _ _ _)
      | (with_reducible exact ih2 _ _ _ _ _ _ _ _)
      | (with_reducible exact recantref02_Has.mono _ _ _)
      | (with_reducible exact recantref02_Names.mono _ _)
      | (with_reducible exact recantref04_most.mono _ _ _ _ _ _ _)
      | (with_reducible exact recantref04_signed.mono _ _ _ _ _ _)
      | (with_reducible exact LeO.refl _)
      | (with_reducible exact LeO.none _)
      | (with_reducible refine LeO.ite ?_ ?_)
      | (with_reducible refine LeO.bind ?_ (fun _ => ?_))
      | exact ih0 _ _ _ _ _ _ _ _ _ _ _
      | exact ih1 _ _ _ _ _ _ _ _ _
      | exact ih2 _ _ _ _ _ _ _ _
      | exact recantref02_Has.mono _ _ _
      | exact recantref02_Names.mono _ _
      | exact recantref04_most.mono _ _ _ _ _ _ _
      | exact recantref04_signed.mono _ _ _ _ _ _
      | exact LeO.none _
      | refine LeO.ite ?_ ?_
      | refine LeO.bind ?_ (fun _ => ?_)
    · intro y0 y1 y2 y3 y4 y5 y6 y7 y8
      unfold recantref04_body.j1
      repeat' first
      | (with_reducible exact ih0 _ _ _ _ _ _ _ _ _ _ _)
      | (with_reducible exact ih1 _ _ _ _ _ _ _ _ _)
      | (with_reducible exact ih2 _ _ _ _ _ _ _ _)
      | (with_reducible exact recantref02_Has.mono _ _ _)
      | (with_reducible exact recantref02_Names.mono _ _)
      | (with_reducible exact recantref04_most.mono _ _ _ _ _ _ _)
      | (with_reducible exact recantref04_signed.mono _ _ _ _ _ _)
      | (with_reducible exact LeO.refl _)
      | (with_reducible exact LeO.none _)
      | (with_reducible refine LeO.ite ?_ ?_)
      | (with_reducible refine LeO.bind ?_ (fun _ => ?_))
      | exact ih0 _ _ _ _ _ _ _ _ _ _ _
      | exact ih1 _ _ _ _ _ _ _ _ _
      | exact ih2 _ _ _ _ _ _ _ _
      | exact recantref02_Has.mono _ _ _
      | exact recantref02_Names.mono _ _
      | exact recantref04_most.mono _ _ _ _ _ _ _
      | exact recantref04_signed.mono _ _ _ _ _ _
      | exact LeO.none _
      | refine LeO.ite ?_ ?_
      | refine LeO.bind ?_ (fun _ => ?_)
    · intro y0 y1 y2 y3 y4 y5 y6 y7
      unfold recantref04_body.j2
      repeat' first
      | (with_reducible exact ih0 _ _ _ _ _ _ _ _ _ _ _)
      | (with_reducible exact ih1 _ _ _ _ _ _ _ _ _)
      | (with_reducible exact ih2 _ _ _ _ _ _ _ _)
      | (with_reducible exact recantref02_Has.mono _ _ _)
      | (with_reducible exact recantref02_Names.mono _ _)
      | (with_reducible exact recantref04_most.mono _ _ _ _ _ _ _)
      | (with_reducible exact recantref04_signed.mono _ _ _ _ _ _)
      | (with_reducible exact LeO.refl _)
      | (with_reducible exact LeO.none _)
      | (with_reducible refine LeO.ite ?_ ?_)
      | (with_reducible refine LeO.bind ?_ (fun _ => ?_))
      | exact ih0 _ _ _ _ _ _ _ _ _ _ _
      | exact ih1 _ _ _ _ _ _ _ _ _
      | exact ih2 _ _ _ _ _ _ _ _
      | exact recantref02_Has.mono _ _ _
      | exact recantref02_Names.mono _ _
      | exact recantref04_most.mono _ _ _ _ _ _ _
      | exact recantref04_signed.mono _ _ _ _ _ _
      | exact LeO.none _
      | refine LeO.ite ?_ ?_
      | refine LeO.bind ?_ (fun _ => ?_)
theorem recantref04_body.mono : ∀ a0 a1 a2 a3 k, LeO (recantref04_body.f k a0 a1 a2 a3) (recantref04_body.f (k + 1) a0 a1 a2 a3) := by
  intro a0 a1 a2 a3 k
  obtain ⟨ih0, ih1, ih2⟩ := recantref04_body.mono_l k
  unfold recantref04_body.f
  repeat' first
      | (with_reducible exact ih0 _ _ _ _ _ _ _ _ _ _ _)
      | (with_reducible exact ih1 _ _ _ _ _ _ _ _ _)
      | (with_reducible exact ih2 _ _ _ _ _ _ _ _)
      | (with_reducible exact recantref02_Has.mono _ _ _)
      | (with_reducible exact recantref02_Names.mono _ _)
      | (with_reducible exact recantref04_most.mono _ _ _ _ _ _ _)
      | (with_reducible exact recantref04_signed.mono _ _ _ _ _ _)
      | (with_reducible exact LeO.refl _)
      | (with_reducible exact LeO.none _)
      | (with_reducible refine LeO.ite ?_ ?_)
      | (with_reducible refine LeO.bind ?_ (fun _ => ?_))
      | exact ih0 _ _ _ _ _ _ _ _ _ _ _
      | exact ih1 _ _ _ _ _ _ _ _ _
      | exact ih2 _ _ _ _ _ _ _ _
      | exact recantref02_Has.mono _ _ _
      | exact recantref02_Names.mono _ _
      | exact recantref04_most.mono _ _ _ _ _ _ _
      | exact recantref04_signed.mono _ _ _ _ _ _
      | exact LeO.none _
      | refine LeO.ite ?_ ?_
      | refine LeO.bind ?_ (fun _ => ?_)
set_option maxHeartbeats 8000000 in
set_option maxRecDepth 100000 in
theorem recantref04_body.calls (k : Nat) (A0 : Option Addr) (c0 : Nat) (l0 : List Int) (a1 : Int) (a2 : Int) (A3 : Option Addr) (c3 : Nat) (l3 : List (S76)) (r1 : List (S76)) (r2 : Int) (r3 : Int) (w : World) (hr0 : Kd.C (Kd.int .u8) w A0 l0.length l0) (hc0 : l0.length ≤ c0) (hr3 : Kd.C k76 w A3 l3.length l3) (hc3 : l3.length ≤ c3) (h : recantref04_body.f k l0 a1 a2 l3 = some (r1, r2, r3)) :
    Calls Try.prog 47 #[.slice A0 l0.length c0, .int .i64 a1, .int .i64 a2, .slice A3 l3.length c3] w fun e w' => ∃ v0_ : Value, e = .returned (.agg #[v0_, .int .i64 r2, .int .i64 r3]) ∧ Kd.R k76 76 w' w.heap.size (fun _ => True) v0_ r1 ∧ Below w.heap.size w w' := by
  have hu44 := Try.underlying44
  have hu76 := Try.underlying76
  have hu72 := Try.underlying72
  have HR0 := Aside0.mk hr0
  have HC0 := Aside0.mk hc0
  clear hr0 hc0
  have HR3 := Aside0.mk hr3
  have HC3 := Aside0.mk hc3
  clear hr3 hc3
  have HB := Aside0.mk (Below.refl w.heap.size w)
  have H : (if 0 ≤ a1 then (if a1 < (l0.length : Int) then (if (wrap64 (rd l0 a1)) > 9 then (some (([] : List (S76)), a1, 2)) else ((recantref04_most.f k l0 0 (wrap64 (a1 + 1)) 0 a2 9999).bind fun bt149 => ((recantref02_Names.f k l3).bind fun t153 => (if bt149.2.2 = 0 then (if (t153.length : Int) = 6 then ((recantref02_Has.f k t153 (wrap64 (bt149.1))).bind fun t156 => (recantref04_body.j0 k l0 a1 a2 (!t156) (wrap64 (rd l0 a1)) (wrap64 (bt149.1)) 0 0 bt149.1 bt149.2.1 bt149.2.2)) else (recantref04_body.j0 k l0 a1 a2 false (wrap64 (rd l0 a1)) (wrap64 (bt149.1)) 0 0 bt149.1 bt149.2.1 bt149.2.2)) else (recantref04_body.j0 k l0 a1 a2 false (wrap64 (rd l0 a1)) (wrap64 (bt149.1)) 0 0 bt149.1 bt149.2.1 bt149.2.2))))) else (none)) else (none)) = some (r1, r2, r3) := h
  clear h
  by_cases c5 : 0 ≤ a1
  · rw [if_pos c5] at H
    have c5b0 : decide (0 ≤ a1) = true := decide_eq_true c5
    clear c5
    by_cases c6 : a1 < (l0.length : Int)
    · rw [if_pos c6] at H
      have c6b0 : decide (a1 < (l0.length : Int)) = true := decide_eq_true c6
      clear c6
      by_cases c7 : (wrap64 (rd l0 a1)) > 9
      · rw [if_pos c7] at H
        have c7b0 : decide (9 < (wrap64 (rd l0 a1))) = true := decide_eq_true c7
        clear c7
        simp only [Option.some.injEq, Prod.mk.injEq] at H
        obtain ⟨rfl, rfl, rfl⟩ := H
        go_enter Try.func47, Try.ntmps47
        go_wp2_with (first | ((with_reducible refine gate_dst (N := 8) rfl ?_); (try (refine gate_guard (by rfl) ?_; dsimp only)); refine box_event ?hg (N := 8) ?hd (cs := #[.slice none 0 0, .int .i64 0, .int .i64 0]) (t := 44) ?hr ?_; (case hd => rfl); (case hg => rfl); (case hr => first | (go_simp; done) | (go_simp; rfl)); intro gb146 hg w8 hbox hb; have n0_ := Aside0.mk (below_step (by repeat (first | (with_reducible first | exact HB.out | apply below_alloc | apply pw_below_drewN | apply below_drew1) | exact HB.out)) hb); have n1_ := Aside0.mk (hbox); have n2_ := Aside0.mk ((by rw [hg]; exact (below_size (by repeat (first | (with_reducible first | exact HB.out | apply below_alloc | apply pw_below_drewN | apply below_drew1) | exact HB.out))) : w.heap.size ≤ gb146)); have n3_ := Aside0.mk ((by rw [hg]; exact (below_size (by repeat (first | (with_reducible first | exact HB.out | apply below_alloc | apply pw_below_drewN | apply below_drew1) | exact HB.out))) : w.heap.size ≤ gb146)); clear HB; have HB := n0_; have BK146 := n1_; have GW146 := n2_; have GE146 := n3_; clear n0_ n1_ n2_ n3_; clear hb hbox hg; have p147 : 0 ≤ (a1 : Int) := of_decide_eq_true (by first | (with_reducible assumption) | assumption); have q147 : a1 < (l0.length : Int) := of_decide_eq_true (by first | (with_reducible assumption) | assumption); obtain ⟨ad147, e147, hx147_0⟩ := Kd.at_int HR0.out a1 p147 q147; cases e147; replace hx147_0 := (HB.out.cell (World.block_lt_of_cell? w _ hx147_0)).trans hx147_0; replace p147 := eq_true p147; replace q147 := eq_true q147) | ((with_reducible refine gate_dst (N := 9) rfl ?_); (try (refine gate_guard (by rfl) ?_; dsimp only)); refine box_event ?hg (N := 9) ?hd (cs := #[.int .i64 0, .int .i64 0, .int .i64 0, .int .i64 0]) (t := 76) ?hr ?_; (case hd => rfl); (case hg => rfl); (case hr => first | (go_simp; done) | (go_simp; rfl)); intro gb148 hg w9 hbox hb; have n0_ := Aside0.mk (blk_below (g := gb146) (o := .cells #[.slice none 0 0, .int .i64 0, .int .i64 0] 44 (0, 0)) (by (with_reducible repeat (first | refine blk_drewN ?_ _ | refine blk_drew ?_ | refine blk_alloc ?_ _)); exact BK146.out) hb); have n1_ := Aside0.mk (below_step (by repeat (first | (with_reducible first | exact HB.out | apply below_alloc | apply pw_below_drewN | apply below_drew1 | refine below_set ?_ GE146.out) | exact HB.out)) hb); have n2_ := Aside0.mk (hbox); have n3_ := Aside0.mk ((by rw [hg]; exact (below_size (by repeat (first | (with_reducible first | exact HB.out | apply below_alloc | apply pw_below_drewN | apply below_drew1 | refine below_set ?_ GE146.out) | exact HB.out))) : w.heap.size ≤ gb148)); have n4_ := Aside0.mk ((by rw [hg]; exact (below_size (by repeat (first | (with_reducible first | exact HB.out | apply below_alloc | apply pw_below_drewN | apply below_drew1 | refine below_set ?_ GE146.out) | exact HB.out))) : w.heap.size ≤ gb148)); have n5_ := Aside0.mk ((by rw [hg]; exact Nat.ne_of_lt (blk_lt (g := gb146) (o := .cells #[.slice none 0 0, .int .i64 0, .int .i64 0] 44 (0, 0)) (by (with_reducible repeat (first | refine blk_drewN ?_ _ | refine blk_drew ?_ | refine blk_alloc ?_ _)); exact BK146.out)) : gb146 ≠ gb148)); have n6_ := Aside0.mk ((by rw [hg]; exact Nat.ne_of_gt (blk_lt (g := gb146) (o := .cells #[.slice none 0 0, .int .i64 0, .int .i64 0] 44 (0, 0)) (by (with_reducible repeat (first | refine blk_drewN ?_ _ | refine blk_drew ?_ | refine blk_alloc ?_ _)); exact BK146.out)) : gb148 ≠ gb146)); clear BK146; clear HB; have BK146 := n0_; have HB := n1_; have BK148 := n2_; have GW148 := n3_; have GE148 := n4_; have NB146_148 := n5_; have NB148_146 := n6_; clear n0_ n1_ n2_ n3_ n4_ n5_ n6_; clear hb hbox hg; have hnb10 := NB148_146.out; have hnc10 := NB146_148.out; have hcz11_0 : w9.cell? ⟨gb148, 0, none⟩ = some (.int .i64 0) := (blk_cell BK148.out 0).trans rfl; have hcz11_1 : w9.cell? ⟨gb148, 1, none⟩ = some (.int .i64 0) := (blk_cell BK148.out 1).trans rfl; have hcz11_2 : w9.cell? ⟨gb148, 2, none⟩ = some (.int .i64 0) := (blk_cell BK148.out 2).trans rfl; have hcz11_3 : w9.cell? ⟨gb148, 3, none⟩ = some (.int .i64 0) := (blk_cell BK148.out 3).trans rfl; have hfz11_0 := blk_frozen BK148.out 0; have hfz11_1 := blk_frozen BK148.out 1; have hfz11_2 := blk_frozen BK148.out 2; have hfz11_3 := blk_frozen BK148.out 3; have hcz12_0 : w9.cell? ⟨gb146, 0, none⟩ = some (.slice none 0 0) := (blk_cell BK146.out 0).trans rfl; have hcz12_1 : w9.cell? ⟨gb146, 1, none⟩ = some (.int .i64 0) := (blk_cell BK146.out 1).trans rfl; have hcz12_2 : w9.cell? ⟨gb146, 2, none⟩ = some (.int .i64 0) := (blk_cell BK146.out 2).trans rfl; have hfz12_0 := blk_frozen BK146.out 0; have hfz12_1 := blk_frozen BK146.out 1; have hfz12_2 := blk_frozen BK146.out 2))
        refine bodyPost_ret (results_cell_row rfl _ _ gb146 44 #[.slice none 0 0, .int .i64 a1, .int .i64 2] (0, 0) _ rfl (by (with_reducible repeat (first | refine blk_drewN ?_ _ | refine blk_drew ?_ | refine blk_alloc ?_ _)); refine blk_put (cs := #[.slice none 0 0, .int .i64 a1, .int .i64 0]) ?_ 2 _ rfl; (with_reducible repeat (first | refine blk_drewN ?_ _ | refine blk_drew ?_ | refine blk_alloc ?_ _)); refine blk_put (cs := #[.slice none 0 0, .int .i64 0, .int .i64 0]) ?_ 1 _ rfl; (with_reducible repeat (first | refine blk_drewN ?_ _ | refine blk_drew ?_ | refine blk_alloc ?_ _)); refine blk_put (cs := #[.slice none 0 0, .int .i64 0, .int .i64 0]) ?_ 0 _ rfl; (with_reducible repeat (first | refine blk_drewN ?_ _ | refine blk_drew ?_ | refine blk_alloc ?_ _)); refine blk_far ?_ NB146_148.out _; (with_reducible repeat (first | refine blk_drewN ?_ _ | refine blk_drew ?_ | refine blk_alloc ?_ _)); refine blk_far ?_ NB146_148.out _; (with_reducible repeat (first | refine blk_drewN ?_ _ | refine blk_drew ?_ | refine blk_alloc ?_ _)); refine blk_far ?_ NB146_148.out _; (with_reducible repeat (first | refine blk_drewN ?_ _ | refine blk_drew ?_ | refine blk_alloc ?_ _)); refine blk_far ?_ NB146_148.out _; (with_reducible repeat (first | refine blk_drewN ?_ _ | refine blk_drew ?_ | refine blk_alloc ?_ _)); exact BK146.out) Try.underlying44 rfl (by kernel_rfl)) rfl ?_
        exact ⟨_, by first | rfl | (simp [errW_none, errW_some] <;> rfl) | (simp [*, errW_none, errW_some] <;> rfl), by first | exact Kd.R_nil _ _ _ _ _ | exact Kd.N_nil _ _ _ _ _ | exact Kd.V_nil _ _ _ _ _ | exact Kd.Q_nil _ _ _ _ _ | exact Kd.S_nil _ _ _ _ _, by repeat (first | (with_reducible first | exact HB.out | apply below_alloc | apply pw_below_drewN | apply below_drew1 | refine below_set ?_ GE146.out | refine below_set ?_ GE148.out) | exact HB.out)⟩
      · rw [if_neg c7] at H
        have c7b0 : decide (9 < (wrap64 (rd l0 a1))) = false := decide_eq_false c7
        clear c7
        replace H := Option.bind_eq_some_iff.mp H
        obtain ⟨⟨t149, t150, t151⟩, A130, H⟩ := H
        replace H : ((recantref02_Names.f k l3).bind fun t153 => (if t151 = 0 then (if (t153.length : Int) = 6 then ((recantref02_Has.f k t153 (wrap64 (t149))).bind fun t156 => (recantref04_body.j0 k l0 a1 a2 (!t156) (wrap64 (rd l0 a1)) (wrap64 (t149)) 0 0 t149 t150 t151)) else (recantref04_body.j0 k l0 a1 a2 false (wrap64 (rd l0 a1)) (wrap64 (t149)) 0 0 t149 t150 t151)) else (recantref04_body.j0 k l0 a1 a2 false (wrap64 (rd l0 a1)) (wrap64 (t149)) 0 0 t149 t150 t151))) = some (r1, r2, r3) := H
        have A13 := Aside0.mk A130
        clear A130
        replace H := Option.bind_eq_some_iff.mp H
        obtain ⟨t153, A140, H⟩ := H
        replace H : (if t151 = 0 then (if (t153.length : Int) = 6 then ((recantref02_Has.f k t153 (wrap64 (t149))).bind fun t156 => (recantref04_body.j0 k l0 a1 a2 (!t156) (wrap64 (rd l0 a1)) (wrap64 (t149)) 0 0 t149 t150 t151)) else (recantref04_body.j0 k l0 a1 a2 false (wrap64 (rd l0 a1)) (wrap64 (t149)) 0 0 t149 t150 t151)) else (recantref04_body.j0 k l0 a1 a2 false (wrap64 (rd l0 a1)) (wrap64 (t149)) 0 0 t149 t150 t151)) = some (r1, r2, r3) := H
        have A14 := Aside0.mk A140
        clear A140
        have HC15 := Aside0.mk H
        clear H
        go_enter Try.func47, Try.ntmps47
        go_upto_region 7 with (first | ((with_reducible refine gate_dst (N := 8) rfl ?_); (try (refine gate_guard (by rfl) ?_; dsimp only)); refine box_event ?hg (N := 8) ?hd (cs := #[.slice none 0 0, .int .i64 0, .int .i64 0]) (t := 44) ?hr ?_; (case hd => rfl); (case hg => rfl); (case hr => first | (go_simp; done) | (go_simp; rfl)); intro gb146 hg w16 hbox hb; have n0_ := Aside0.mk (below_step (by repeat (first | (with_reducible first | exact HB.out | apply below_alloc | apply pw_below_drewN | apply below_drew1) | exact HB.out)) hb); have n1_ := Aside0.mk (hbox); have n2_ := Aside0.mk ((by rw [hg]; exact (below_size (by repeat (first | (with_reducible first | exact HB.out | apply below_alloc | apply pw_below_drewN | apply below_drew1) | exact HB.out))) : w.heap.size ≤ gb146)); have n3_ := Aside0.mk ((by rw [hg]; exact (below_size (by repeat (first | (with_reducible first | exact HB.out | apply below_alloc | apply pw_below_drewN | apply below_drew1) | exact HB.out))) : w.heap.size ≤ gb146)); clear HB; have HB := n0_; have BK146 := n1_; have GW146 := n2_; have GE146 := n3_; clear n0_ n1_ n2_ n3_; clear hb hbox hg; have p147 : 0 ≤ (a1 : Int) := of_decide_eq_true (by first | (with_reducible assumption) | assumption); have q147 : a1 < (l0.length : Int) := of_decide_eq_true (by first | (with_reducible assumption) | assumption); obtain ⟨ad147, e147, hx147_0⟩ := Kd.at_int HR0.out a1 p147 q147; cases e147; replace hx147_0 := (HB.out.cell (World.block_lt_of_cell? w _ hx147_0)).trans hx147_0; replace p147 := eq_true p147; replace q147 := eq_true q147) | ((with_reducible refine gate_dst (N := 9) rfl ?_); (try (refine gate_guard (by rfl) ?_; dsimp only)); refine box_event ?hg (N := 9) ?hd (cs := #[.int .i64 0, .int .i64 0, .int .i64 0, .int .i64 0]) (t := 76) ?hr ?_; (case hd => rfl); (case hg => rfl); (case hr => first | (go_simp; done) | (go_simp; rfl)); intro gb148 hg w17 hbox hb; have n0_ := Aside0.mk (blk_below (g := gb146) (o := .cells #[.slice none 0 0, .int .i64 0, .int .i64 0] 44 (0, 0)) (by (with_reducible repeat (first | refine blk_drewN ?_ _ | refine blk_drew ?_ | refine blk_alloc ?_ _)); exact BK146.out) hb); have n1_ := Aside0.mk (below_step (by repeat (first | (with_reducible first | exact HB.out | apply below_alloc | apply pw_below_drewN | apply below_drew1 | refine below_set ?_ GE146.out) | exact HB.out)) hb); have n2_ := Aside0.mk (hbox); have n3_ := Aside0.mk ((by rw [hg]; exact (below_size (by repeat (first | (with_reducible first | exact HB.out | apply below_alloc | apply pw_below_drewN | apply below_drew1 | refine below_set ?_ GE146.out) | exact HB.out))) : w.heap.size ≤ gb148)); have n4_ := Aside0.mk ((by rw [hg]; exact (below_size (by repeat (first | (with_reducible first | exact HB.out | apply below_alloc | apply pw_below_drewN | apply below_drew1 | refine below_set ?_ GE146.out) | exact HB.out))) : w.heap.size ≤ gb148)); have n5_ := Aside0.mk ((by rw [hg]; exact Nat.ne_of_lt (blk_lt (g := gb146) (o := .cells #[.slice none 0 0, .int .i64 0, .int .i64 0] 44 (0, 0)) (by (with_reducible repeat (first | refine blk_drewN ?_ _ | refine blk_drew ?_ | refine blk_alloc ?_ _)); exact BK146.out)) : gb146 ≠ gb148)); have n6_ := Aside0.mk ((by rw [hg]; exact Nat.ne_of_gt (blk_lt (g := gb146) (o := .cells #[.slice none 0 0, .int .i64 0, .int .i64 0] 44 (0, 0)) (by (with_reducible repeat (first | refine blk_drewN ?_ _ | refine blk_drew ?_ | refine blk_alloc ?_ _)); exact BK146.out)) : gb148 ≠ gb146)); clear BK146; clear HB; have BK146 := n0_; have HB := n1_; have BK148 := n2_; have GW148 := n3_; have GE148 := n4_; have NB146_148 := n5_; have NB148_146 := n6_; clear n0_ n1_ n2_ n3_ n4_ n5_ n6_; clear hb hbox hg; have hnb18 := NB148_146.out; have hnc18 := NB146_148.out; have hcz19_0 : w17.cell? ⟨gb148, 0, none⟩ = some (.int .i64 0) := (blk_cell BK148.out 0).trans rfl; have hcz19_1 : w17.cell? ⟨gb148, 1, none⟩ = some (.int .i64 0) := (blk_cell BK148.out 1).trans rfl; have hcz19_2 : w17.cell? ⟨gb148, 2, none⟩ = some (.int .i64 0) := (blk_cell BK148.out 2).trans rfl; have hcz19_3 : w17.cell? ⟨gb148, 3, none⟩ = some (.int .i64 0) := (blk_cell BK148.out 3).trans rfl; have hfz19_0 := blk_frozen BK148.out 0; have hfz19_1 := blk_frozen BK148.out 1; have hfz19_2 := blk_frozen BK148.out 2; have hfz19_3 := blk_frozen BK148.out 3) | ((with_reducible refine gate_callee (f := 53) rfl ?_); refine goesL_ (some 28) rfl rfl Try.func53 (by kernel_rfl) rfl #[.slice (some ad147) l0.length c0, .agg #[.int .u64 0, .int .i64 (wrap64 (a1 + 1)), .int .i64 0], .int .i64 a2, .int .u64 9999] rfl (by (try simp only [List.map_toArray, List.map_cons, List.map_nil]); first | done | rfl | (simp only [List.length_drop, List.length_take]; rfl)) ?_; (with_reducible refine (recantref04_most.calls k _ _ l0 0 (wrap64 (a1 + 1)) 0 a2 9999 t149 t150 t151 _ ?side1 ?side2 A13.out).mono ?_); (case side1 => exact Kd.C_below HR0.out (by repeat (first | (with_reducible first | exact HB.out | apply below_alloc | apply pw_below_drewN | apply below_drew1 | refine below_set ?_ GE146.out | refine below_set ?_ GE148.out) | exact HB.out))); (case side2 => exact HC0.out); rintro e w20 ⟨rfl, hb⟩; refine ⟨_, rfl, ?_⟩; have n0_ := Aside0.mk (blk_below (g := gb146) (o := .cells #[.slice none 0 0, .int .i64 0, .int .i64 0] 44 (0, 0)) (by (with_reducible repeat (first | refine blk_drewN ?_ _ | refine blk_drew ?_ | refine blk_alloc ?_ _)); refine blk_far ?_ NB146_148.out _; (with_reducible repeat (first | refine blk_drewN ?_ _ | refine blk_drew ?_ | refine blk_alloc ?_ _)); refine blk_far ?_ NB146_148.out _; (with_reducible repeat (first | refine blk_drewN ?_ _ | refine blk_drew ?_ | refine blk_alloc ?_ _)); refine blk_far ?_ NB146_148.out _; (with_reducible repeat (first | refine blk_drewN ?_ _ | refine blk_drew ?_ | refine blk_alloc ?_ _)); refine blk_far ?_ NB146_148.out _; (with_reducible repeat (first | refine blk_drewN ?_ _ | refine blk_drew ?_ | refine blk_alloc ?_ _)); exact BK146.out) hb); have n1_ := Aside0.mk (blk_below (g := gb148) (o := .cells #[.int .i64 (wrap64 (rd l0 a1)), .int .i64 0, .int .i64 0, .int .i64 0] 76 (0, 0)) (by (with_reducible repeat (first | refine blk_drewN ?_ _ | refine blk_drew ?_ | refine blk_alloc ?_ _)); refine blk_put (cs := #[.int .i64 (wrap64 (rd l0 a1)), .int .i64 0, .int .i64 0, .int .i64 0]) ?_ 3 _ rfl; (with_reducible repeat (first | refine blk_drewN ?_ _ | refine blk_drew ?_ | refine blk_alloc ?_ _)); refine blk_put (cs := #[.int .i64 (wrap64 (rd l0 a1)), .int .i64 0, .int .i64 0, .int .i64 0]) ?_ 2 _ rfl; (with_reducible repeat (first | refine blk_drewN ?_ _ | refine blk_drew ?_ | refine blk_alloc ?_ _)); refine blk_put (cs := #[.int .i64 (wrap64 (rd l0 a1)), .int .i64 0, .int .i64 0, .int .i64 0]) ?_ 1 _ rfl; (with_reducible repeat (first | refine blk_drewN ?_ _ | refine blk_drew ?_ | refine blk_alloc ?_ _)); refine blk_put (cs := #[.int .i64 0, .int .i64 0, .int .i64 0, .int .i64 0]) ?_ 0 _ rfl; (with_reducible repeat (first | refine blk_drewN ?_ _ | refine blk_drew ?_ | refine blk_alloc ?_ _)); exact BK148.out) hb); have n2_ := Aside0.mk (below_step (by repeat (first | (with_reducible first | exact HB.out | apply below_alloc | apply pw_below_drewN | apply below_drew1 | refine below_set ?_ GE146.out | refine below_set ?_ GE148.out) | exact HB.out)) hb); clear BK146; clear BK148; clear HB; have BK146 := n0_; have BK148 := n1_; have HB := n2_; clear n0_ n1_ n2_; (try clear hb); (try clear hb2); (try clear hk); (try clear hi)) | ((with_reducible refine gate_dst (N := 10) rfl ?_); (try (refine gate_guard (by rfl) ?_; dsimp only)); refine box_event ?hg (N := 10) ?hd (cs := #[.int .u64 0, .int .i64 0, .int .i64 0]) (t := 72) ?hr ?_; (case hd => rfl); (case hg => rfl); (case hr => first | (go_simp; done) | (go_simp; rfl)); intro gb152 hg w21 hbox hb; have n0_ := Aside0.mk (blk_below (g := gb146) (o := .cells #[.slice none 0 0, .int .i64 0, .int .i64 0] 44 (0, 0)) (by (with_reducible repeat (first | refine blk_drewN ?_ _ | refine blk_drew ?_ | refine blk_alloc ?_ _)); exact BK146.out) hb); have n1_ := Aside0.mk (blk_below (g := gb148) (o := .cells #[.int .i64 (wrap64 (rd l0 a1)), .int .i64 0, .int .i64 0, .int .i64 0] 76 (0, 0)) (by (with_reducible repeat (first | refine blk_drewN ?_ _ | refine blk_drew ?_ | refine blk_alloc ?_ _)); exact BK148.out) hb); have n2_ := Aside0.mk (below_step (by repeat (first | (with_reducible first | exact HB.out | apply below_alloc | apply pw_below_drewN | apply below_drew1 | refine below_set ?_ GE146.out | refine below_set ?_ GE148.out) | exact HB.out)) hb); have n3_ := Aside0.mk (hbox); have n4_ := Aside0.mk ((by rw [hg]; exact (below_size (by repeat (first | (with_reducible first | exact HB.out | apply below_alloc | apply pw_below_drewN | apply below_drew1 | refine below_set ?_ GE146.out | refine below_set ?_ GE148.out) | exact HB.out))) : w.heap.size ≤ gb152)); have n5_ := Aside0.mk ((by rw [hg]; exact (below_size (by repeat (first | (with_reducible first | exact HB.out | apply below_alloc | apply pw_below_drewN | apply below_drew1 | refine below_set ?_ GE146.out | refine below_set ?_ GE148.out) | exact HB.out))) : w.heap.size ≤ gb152)); have n6_ := Aside0.mk ((by rw [hg]; exact Nat.ne_of_lt (blk_lt (g := gb146) (o := .cells #[.slice none 0 0, .int .i64 0, .int .i64 0] 44 (0, 0)) (by (with_reducible repeat (first | refine blk_drewN ?_ _ | refine blk_drew ?_ | refine blk_alloc ?_ _)); exact BK146.out)) : gb146 ≠ gb152)); have n7_ := Aside0.mk ((by rw [hg]; exact Nat.ne_of_gt (blk_lt (g := gb146) (o := .cells #[.slice none 0 0, .int .i64 0, .int .i64 0] 44 (0, 0)) (by (with_reducible repeat (first | refine blk_drewN ?_ _ | refine blk_drew ?_ | refine blk_alloc ?_ _)); exact BK146.out)) : gb152 ≠ gb146)); have n8_ := Aside0.mk ((by rw [hg]; exact Nat.ne_of_lt (blk_lt (g := gb148) (o := .cells #[.int .i64 (wrap64 (rd l0 a1)), .int .i64 0, .int .i64 0, .int .i64 0] 76 (0, 0)) (by (with_reducible repeat (first | refine blk_drewN ?_ _ | refine blk_drew ?_ | refine blk_alloc ?_ _)); exact BK148.out)) : gb148 ≠ gb152)); have n9_ := Aside0.mk ((by rw [hg]; exact Nat.ne_of_gt (blk_lt (g := gb148) (o := .cells #[.int .i64 (wrap64 (rd l0 a1)), .int .i64 0, .int .i64 0, .int .i64 0] 76 (0, 0)) (by (with_reducible repeat (first | refine blk_drewN ?_ _ | refine blk_drew ?_ | refine blk_alloc ?_ _)); exact BK148.out)) : gb152 ≠ gb148)); clear BK146; clear BK148; clear HB; have BK146 := n0_; have BK148 := n1_; have HB := n2_; have BK152 := n3_; have GW152 := n4_; have GE152 := n5_; have NB146_152 := n6_; have NB152_146 := n7_; have NB148_152 := n8_; have NB152_148 := n9_; clear n0_ n1_ n2_ n3_ n4_ n5_ n6_ n7_ n8_ n9_; clear hb hbox hg; have hnb22 := NB152_146.out; have hnc22 := NB146_152.out; have hnb23 := NB152_148.out; have hnc23 := NB148_152.out; have hcz24_0 : w21.cell? ⟨gb152, 0, none⟩ = some (.int .u64 0) := (blk_cell BK152.out 0).trans rfl; have hcz24_1 : w21.cell? ⟨gb152, 1, none⟩ = some (.int .i64 0) := (blk_cell BK152.out 1).trans rfl; have hcz24_2 : w21.cell? ⟨gb152, 2, none⟩ = some (.int .i64 0) := (blk_cell BK152.out 2).trans rfl; have hfz24_0 := blk_frozen BK152.out 0; have hfz24_1 := blk_frozen BK152.out 1; have hfz24_2 := blk_frozen BK152.out 2; have hcz25_0 : w21.cell? ⟨gb148, 0, none⟩ = some (.int .i64 (wrap64 (rd l0 a1))) := (blk_cell BK148.out 0).trans rfl; have hcz25_1 : w21.cell? ⟨gb148, 1, none⟩ = some (.int .i64 0) := (blk_cell BK148.out 1).trans rfl; have hcz25_2 : w21.cell? ⟨gb148, 2, none⟩ = some (.int .i64 0) := (blk_cell BK148.out 2).trans rfl; have hcz25_3 : w21.cell? ⟨gb148, 3, none⟩ = some (.int .i64 0) := (blk_cell BK148.out 3).trans rfl; have hfz25_0 := blk_frozen BK148.out 0; have hfz25_1 := blk_frozen BK148.out 1; have hfz25_2 := blk_frozen BK148.out 2; have hfz25_3 := blk_frozen BK148.out 3) | ((with_reducible refine gate_callee (f := 54) rfl ?_); refine goesL_ (some 34) rfl rfl Try.func54 (by kernel_rfl) rfl #[.slice A3 l3.length c3] rfl (by (try simp only [List.map_toArray, List.map_cons, List.map_nil]); first | done | rfl | (simp only [List.length_drop, List.length_take]; rfl)) ?_; (with_reducible refine (recantref02_Names.calls k _ _ l3 t153 _ ?side1 ?side2 A14.out).mono ?_); (case side1 => exact Kd.C_below HR3.out (by repeat (first | (with_reducible first | exact HB.out | apply below_alloc | apply pw_below_drewN | apply below_drew1 | refine below_set ?_ GE146.out | refine below_set ?_ GE148.out | refine below_set ?_ GE152.out) | exact HB.out))); (case side2 => exact HC3.out); rintro e w26 ⟨v154, rfl, ho0, hb⟩; refine ⟨_, rfl, ?_⟩; have n0_ := Aside0.mk (Kd.R_lower ho0 (below_size (by repeat (first | (with_reducible first | exact HB.out | apply below_alloc | apply pw_below_drewN | apply below_drew1 | refine below_set ?_ GE146.out | refine below_set ?_ GE148.out | refine below_set ?_ GE152.out) | exact HB.out)))); have n1_ := Aside0.mk (blk_below (g := gb146) (o := .cells #[.slice none 0 0, .int .i64 0, .int .i64 0] 44 (0, 0)) (by (with_reducible repeat (first | refine blk_drewN ?_ _ | refine blk_drew ?_ | refine blk_alloc ?_ _)); refine blk_far ?_ NB146_148.out _; (with_reducible repeat (first | refine blk_drewN ?_ _ | refine blk_drew ?_ | refine blk_alloc ?_ _)); refine blk_far ?_ NB146_152.out _; (with_reducible repeat (first | refine blk_drewN ?_ _ | refine blk_drew ?_ | refine blk_alloc ?_ _)); refine blk_far ?_ NB146_152.out _; (with_reducible repeat (first | refine blk_drewN ?_ _ | refine blk_drew ?_ | refine blk_alloc ?_ _)); refine blk_far ?_ NB146_152.out _; (with_reducible repeat (first | refine blk_drewN ?_ _ | refine blk_drew ?_ | refine blk_alloc ?_ _)); exact BK146.out) hb); have n2_ := Aside0.mk (blk_below (g := gb148) (o := .cells #[.int .i64 (wrap64 (rd l0 a1)), .int .i64 (wrap64 (t149)), .int .i64 0, .int .i64 0] 76 (0, 0)) (by (with_reducible repeat (first | refine blk_drewN ?_ _ | refine blk_drew ?_ | refine blk_alloc ?_ _)); refine blk_put (cs := #[.int .i64 (wrap64 (rd l0 a1)), .int .i64 0, .int .i64 0, .int .i64 0]) ?_ 1 _ rfl; (with_reducible repeat (first | refine blk_drewN ?_ _ | refine blk_drew ?_ | refine blk_alloc ?_ _)); refine blk_far ?_ NB148_152.out _; (with_reducible repeat (first | refine blk_drewN ?_ _ | refine blk_drew ?_ | refine blk_alloc ?_ _)); refine blk_far ?_ NB148_152.out _; (with_reducible repeat (first | refine blk_drewN ?_ _ | refine blk_drew ?_ | refine blk_alloc ?_ _)); refine blk_far ?_ NB148_152.out _; (with_reducible repeat (first | refine blk_drewN ?_ _ | refine blk_drew ?_ | refine blk_alloc ?_ _)); exact BK148.out) hb); have n3_ := Aside0.mk (blk_below (g := gb152) (o := .cells #[.int .u64 t149, .int .i64 t150, .int .i64 t151] 72 (0, 0)) (by (with_reducible repeat (first | refine blk_drewN ?_ _ | refine blk_drew ?_ | refine blk_alloc ?_ _)); refine blk_far ?_ NB152_148.out _; (with_reducible repeat (first | refine blk_drewN ?_ _ | refine blk_drew ?_ | refine blk_alloc ?_ _)); refine blk_put (cs := #[.int .u64 t149, .int .i64 t150, .int .i64 0]) ?_ 2 _ rfl; (with_reducible repeat (first | refine blk_drewN ?_ _ | refine blk_drew ?_ | refine blk_alloc ?_ _)); refine blk_put (cs := #[.int .u64 t149, .int .i64 0, .int .i64 0]) ?_ 1 _ rfl; (with_reducible repeat (first | refine blk_drewN ?_ _ | refine blk_drew ?_ | refine blk_alloc ?_ _)); refine blk_put (cs := #[.int .u64 0, .int .i64 0, .int .i64 0]) ?_ 0 _ rfl; (with_reducible repeat (first | refine blk_drewN ?_ _ | refine blk_drew ?_ | refine blk_alloc ?_ _)); exact BK152.out) hb); have n4_ := Aside0.mk (below_step (by repeat (first | (with_reducible first | exact HB.out | apply below_alloc | apply pw_below_drewN | apply below_drew1 | refine below_set ?_ GE146.out | refine below_set ?_ GE148.out | refine below_set ?_ GE152.out) | exact HB.out)) hb); clear BK146; clear BK148; clear BK152; clear HB; have HO155 := n0_; have BK146 := n1_; have BK148 := n2_; have BK152 := n3_; have HB := n4_; clear n0_ n1_ n2_ n3_ n4_; (try clear hb); (try clear hb2); (try clear hk); (try clear hi); (try clear ho0)))
        (try simp only [Act.put, List.setIfInBounds_toArray, List.set_cons_zero, List.set_cons_succ])
        go_cut [49] (fun v49 wc => ∃ (kq : Nat) (x49_14 : Bool), v49 = .bool x49_14 ∧ Aside0 (recantref04_body.j0 kq l0 a1 a2 x49_14 (wrap64 (rd l0 a1)) (wrap64 (t149)) 0 0 t149 t150 t151 = some (r1, r2, r3)) ∧ Aside0 (kq ≤ k) ∧ Aside0 (wc.heap[gb146]? = some (.cells #[(.slice none 0 0), .int .i64 0, .int .i64 0] 44 (0, 0))) ∧ Aside0 (wc.heap[gb148]? = some (.cells #[.int .i64 (wrap64 (rd l0 a1)), .int .i64 (wrap64 (t149)), .int .i64 0, .int .i64 0] 76 (0, 0))) ∧ Aside0 (wc.heap[gb152]? = some (.cells #[.int .u64 t149, .int .i64 t150, .int .i64 t151] 72 (0, 0))) ∧ Aside0 (Below w.heap.size w wc))
        case first =>
          have H := HC15.out
          clear HC15
          by_cases c27 : t151 = 0
          · rw [if_pos c27] at H
            have c27b0 : (t151 == 0) = true := beq_iff_eq.mpr c27
            have c27b1 : (t151 != 0) = false := bne_eq_false_iff_eq.mpr c27
            clear c27
            (first | rw [c27b0] | (simp only [i64_w, i32_w]; rw [c27b0]) | skip)
            by_cases c28 : (t153.length : Int) = 6
            · rw [if_pos c28] at H
              have c28b0 : ((t153.length : Int) == 6) = true := beq_iff_eq.mpr c28
              have c28b1 : ((t153.length : Int) != 6) = false := bne_eq_false_iff_eq.mpr c28
              clear c28
              replace H := Option.bind_eq_some_iff.mp H
              obtain ⟨t156, A290, H⟩ := H
              replace H : (recantref04_body.j0 k l0 a1 a2 (!t156) (wrap64 (rd l0 a1)) (wrap64 (t149)) 0 0 t149 t150 t151) = some (r1, r2, r3) := H
              have A29 := Aside0.mk A290
              clear A290
              have H' := Aside0.mk H
              clear H
              have hnb30 := NB152_146.out
              have hnc30 := NB146_152.out
              have hnb31 := NB152_148.out
              have hnc31 := NB148_152.out
              have hcz32_0 : w26.cell? ⟨gb152, 0, none⟩ = some (.int .u64 t149) := (blk_cell BK152.out 0).trans rfl
              have hcz32_1 : w26.cell? ⟨gb152, 1, none⟩ = some (.int .i64 t150) := (blk_cell BK152.out 1).trans rfl
              have hcz32_2 : w26.cell? ⟨gb152, 2, none⟩ = some (.int .i64 t151) := (blk_cell BK152.out 2).trans rfl
              have hfz32_0 := blk_frozen BK152.out 0
              have hfz32_1 := blk_frozen BK152.out 1
              have hfz32_2 := blk_frozen BK152.out 2
              obtain ⟨Ao33, co33, eo33⟩ := Kd.R_slice HO155.out
              subst eo33
              have hnb34 := NB148_146.out
              have hnc34 := NB146_148.out
              have hcz35_0 : w26.cell? ⟨gb148, 0, none⟩ = some (.int .i64 (wrap64 (rd l0 a1))) := (blk_cell BK148.out 0).trans rfl
              have hcz35_1 : w26.cell? ⟨gb148, 1, none⟩ = some (.int .i64 (wrap64 (t149))) := (blk_cell BK148.out 1).trans rfl
              have hcz35_2 : w26.cell? ⟨gb148, 2, none⟩ = some (.int .i64 0) := (blk_cell BK148.out 2).trans rfl
              have hcz35_3 : w26.cell? ⟨gb148, 3, none⟩ = some (.int .i64 0) := (blk_cell BK148.out 3).trans rfl
              have hfz35_0 := blk_frozen BK148.out 0
              have hfz35_1 := blk_frozen BK148.out 1
              have hfz35_2 := blk_frozen BK148.out 2
              have hfz35_3 := blk_frozen BK148.out 3
              go_wp2_with (first | (go_at_call 55; (with_reducible refine (recantref02_Has.calls k _ _ t153 (wrap64 (t149)) t156 _ ?side1 ?side2 A29.out).mono ?_); (case side1 => repeat (first | exact (Kd.R_reads' HO155.out).2.2 | (with_reducible refine Kd.C_alloc ?_ _) | (with_reducible refine Kd.C_drewN ?_ _) | (with_reducible refine Kd.C_drew ?_))); (case side2 => exact (Kd.R_reads' HO155.out).2.1); rintro e w' ⟨rfl, ⟨nd, rfl⟩⟩))
              go_meet
              case rel => exact ⟨_, (!t156), (by first | rfl | (simp; done) | (simp [*]; done)), H', ⟨by first | omega | exact Nat.le_refl _⟩, ⟨by (with_reducible repeat (first | refine blk_drewN ?_ _ | refine blk_drew ?_ | refine blk_alloc ?_ _)); exact BK146.out⟩, ⟨by (with_reducible repeat (first | refine blk_drewN ?_ _ | refine blk_drew ?_ | refine blk_alloc ?_ _)); exact BK148.out⟩, ⟨by (with_reducible repeat (first | refine blk_drewN ?_ _ | refine blk_drew ?_ | refine blk_alloc ?_ _)); exact BK152.out⟩, ⟨by repeat (first | (with_reducible first | exact HB.out | apply below_alloc | apply pw_below_drewN | apply below_drew1 | refine below_set ?_ GE146.out | refine below_set ?_ GE148.out | refine below_set ?_ GE152.out) | exact HB.out)⟩⟩
            · rw [if_neg c28] at H
              have c28b0 : ((t153.length : Int) == 6) = false := beq_eq_false_iff_ne.mpr c28
              have c28b1 : ((t153.length : Int) != 6) = true := bne_iff_ne.mpr c28
              have H' := Aside0.mk H
              clear H
              have hnb36 := NB152_146.out
              have hnc36 := NB146_152.out
              have hnb37 := NB152_148.out
              have hnc37 := NB148_152.out
              have hcz38_0 : w26.cell? ⟨gb152, 0, none⟩ = some (.int .u64 t149) := (blk_cell BK152.out 0).trans rfl
              have hcz38_1 : w26.cell? ⟨gb152, 1, none⟩ = some (.int .i64 t150) := (blk_cell BK152.out 1).trans rfl
              have hcz38_2 : w26.cell? ⟨gb152, 2, none⟩ = some (.int .i64 t151) := (blk_cell BK152.out 2).trans rfl
              have hfz38_0 := blk_frozen BK152.out 0
              have hfz38_1 := blk_frozen BK152.out 1
              have hfz38_2 := blk_frozen BK152.out 2
              obtain ⟨Ao39, co39, eo39⟩ := Kd.R_slice HO155.out
              subst eo39
              go_wp2
              go_meet
              case rel => exact ⟨_, (false), (by first | rfl | (simp; done) | (simp [*]; done)), H', ⟨by first | omega | exact Nat.le_refl _⟩, ⟨by (with_reducible repeat (first | refine blk_drewN ?_ _ | refine blk_drew ?_ | refine blk_alloc ?_ _)); exact BK146.out⟩, ⟨by (with_reducible repeat (first | refine blk_drewN ?_ _ | refine blk_drew ?_ | refine blk_alloc ?_ _)); exact BK148.out⟩, ⟨by (with_reducible repeat (first | refine blk_drewN ?_ _ | refine blk_drew ?_ | refine blk_alloc ?_ _)); exact BK152.out⟩, ⟨by repeat (first | (with_reducible first | exact HB.out | apply below_alloc | apply pw_below_drewN | apply below_drew1 | refine below_set ?_ GE146.out | refine below_set ?_ GE148.out | refine below_set ?_ GE152.out) | exact HB.out)⟩⟩
          · rw [if_neg c27] at H
            have c27b0 : (t151 == 0) = false := beq_eq_false_iff_ne.mpr c27
            have c27b1 : (t151 != 0) = true := bne_iff_ne.mpr c27
            (first | rw [c27b0] | (simp only [i64_w, i32_w]; rw [c27b0]) | skip)
            have H' := Aside0.mk H
            clear H
            have hnb40 := NB152_146.out
            have hnc40 := NB146_152.out
            have hnb41 := NB152_148.out
            have hnc41 := NB148_152.out
            have hcz42_0 : w26.cell? ⟨gb152, 0, none⟩ = some (.int .u64 t149) := (blk_cell BK152.out 0).trans rfl
            have hcz42_1 : w26.cell? ⟨gb152, 1, none⟩ = some (.int .i64 t150) := (blk_cell BK152.out 1).trans rfl
            have hcz42_2 : w26.cell? ⟨gb152, 2, none⟩ = some (.int .i64 t151) := (blk_cell BK152.out 2).trans rfl
            have hfz42_0 := blk_frozen BK152.out 0
            have hfz42_1 := blk_frozen BK152.out 1
            have hfz42_2 := blk_frozen BK152.out 2
            go_wp2
            go_meet
            case rel => exact ⟨_, (false), (by first | rfl | (simp; done) | (simp [*]; done)), H', ⟨by first | omega | exact Nat.le_refl _⟩, ⟨by (with_reducible repeat (first | refine blk_drewN ?_ _ | refine blk_drew ?_ | refine blk_alloc ?_ _)); exact BK146.out⟩, ⟨by (with_reducible repeat (first | refine blk_drewN ?_ _ | refine blk_drew ?_ | refine blk_alloc ?_ _)); exact BK148.out⟩, ⟨by (with_reducible repeat (first | refine blk_drewN ?_ _ | refine blk_drew ?_ | refine blk_alloc ?_ _)); exact BK152.out⟩, ⟨by repeat (first | (with_reducible first | exact HB.out | apply below_alloc | apply pw_below_drewN | apply below_drew1 | refine below_set ?_ GE146.out | refine below_set ?_ GE148.out | refine below_set ?_ GE152.out) | exact HB.out)⟩⟩
        case rest =>
          clear HC15
          try clear c1
          try clear p1
          try clear q1
          try clear hx1
          try clear c2
          try clear p2
          try clear c3
          try clear c4
          try clear c5
          try clear c5b0
          try clear c6
          try clear c6b0
          try clear p6
          try clear c7
          try clear c7b0
          try clear c10
          try clear p14
          try clear q14
          try clear hx14
          try clear c18
          try clear c22
          try clear c23
          try clear c27
          try clear c27b0
          try clear c27b1
          try clear c28
          try clear c28b0
          try clear c28b1
          try clear c30
          try clear c31
          try clear c34
          try clear c36
          try clear c37
          try clear c40
          try clear c41
          try clear hcz11_0
          try clear hcz11_1
          try clear hcz11_2
          try clear hcz11_3
          try clear hcz12_0
          try clear hcz12_1
          try clear hcz12_2
          try clear hcz19_0
          try clear hcz19_1
          try clear hcz19_2
          try clear hcz19_3
          try clear hcz24_0
          try clear hcz24_1
          try clear hcz24_2
          try clear hcz25_0
          try clear hcz25_1
          try clear hcz25_2
          try clear hcz25_3
          try clear hcz32_0
          try clear hcz32_1
          try clear hcz32_2
          try clear hcz35_0
          try clear hcz35_1
          try clear hcz35_2
          try clear hcz35_3
          try clear hcz38_0
          try clear hcz38_1
          try clear hcz38_2
          try clear hcz42_0
          try clear hcz42_1
          try clear hcz42_2
          try clear hfz11_0
          try clear hfz11_1
          try clear hfz11_2
          try clear hfz11_3
          try clear hfz12_0
          try clear hfz12_1
          try clear hfz12_2
          try clear hfz19_0
          try clear hfz19_1
          try clear hfz19_2
          try clear hfz19_3
          try clear hfz24_0
          try clear hfz24_1
          try clear hfz24_2
          try clear hfz25_0
          try clear hfz25_1
          try clear hfz25_2
          try clear hfz25_3
          try clear hfz32_0
          try clear hfz32_1
          try clear hfz32_2
          try clear hfz35_0
          try clear hfz35_1
          try clear hfz35_2
          try clear hfz35_3
          try clear hfz38_0
          try clear hfz38_1
          try clear hfz38_2
          try clear hfz42_0
          try clear hfz42_1
          try clear hfz42_2
          try clear hx147_0
          try clear p147
          try clear q147
          obtain ⟨kq, x49_14, rfl, HA, HJ14, BK146, BK148, BK152, HB⟩ := hcut
          cases kq with
          | zero => exact absurd HA.out (by simp [recantref04_body.j0])
          | succ kj14 =>
            have H := HA.out
            clear HA
            simp only [recantref04_body.j0] at H
            by_cases c43 : x49_14 = true
            · subst c43
              have H1 : (some (([] : List (S76)), wrap64 (a1 + 1), 5)) = some (r1, r2, r3) := by rw [if_pos rfl] at H; exact H
              clear H
              have H := H1
              clear H1
              simp only [Option.some.injEq, Prod.mk.injEq] at H
              obtain ⟨rfl, rfl, rfl⟩ := H
              have hnb44 := NB146_148.out
              have hnc44 := NB148_146.out
              have hnb45 := NB146_152.out
              have hnc45 := NB152_146.out
              have hcz46_0 : wc.cell? ⟨gb146, 0, none⟩ = some (.slice none 0 0) := (blk_cell BK146.out 0).trans rfl
              have hcz46_1 : wc.cell? ⟨gb146, 1, none⟩ = some (.int .i64 0) := (blk_cell BK146.out 1).trans rfl
              have hcz46_2 : wc.cell? ⟨gb146, 2, none⟩ = some (.int .i64 0) := (blk_cell BK146.out 2).trans rfl
              have hfz46_0 := blk_frozen BK146.out 0
              have hfz46_1 := blk_frozen BK146.out 1
              have hfz46_2 := blk_frozen BK146.out 2
              go_wp2
              refine bodyPost_ret (results_cell_row rfl _ _ gb146 44 #[.slice none 0 0, .int .i64 (wrap64 (a1 + 1)), .int .i64 5] (0, 0) _ rfl (by (with_reducible repeat (first | refine blk_drewN ?_ _ | refine blk_drew ?_ | refine blk_alloc ?_ _)); refine blk_put (cs := #[.slice none 0 0, .int .i64 (wrap64 (a1 + 1)), .int .i64 0]) ?_ 2 _ rfl; (with_reducible repeat (first | refine blk_drewN ?_ _ | refine blk_drew ?_ | refine blk_alloc ?_ _)); refine blk_put (cs := #[.slice none 0 0, .int .i64 0, .int .i64 0]) ?_ 1 _ rfl; (with_reducible repeat (first | refine blk_drewN ?_ _ | refine blk_drew ?_ | refine blk_alloc ?_ _)); refine blk_put (cs := #[.slice none 0 0, .int .i64 0, .int .i64 0]) ?_ 0 _ rfl; (with_reducible repeat (first | refine blk_drewN ?_ _ | refine blk_drew ?_ | refine blk_alloc ?_ _)); exact BK146.out) Try.underlying44 rfl (by kernel_rfl)) rfl ?_
              exact ⟨_, by first | rfl | (simp [errW_none, errW_some] <;> rfl) | (simp [*, errW_none, errW_some] <;> rfl), by first | exact Kd.R_nil _ _ _ _ _ | exact Kd.N_nil _ _ _ _ _ | exact Kd.V_nil _ _ _ _ _ | exact Kd.Q_nil _ _ _ _ _ | exact Kd.S_nil _ _ _ _ _, by repeat (first | (with_reducible first | exact HB.out | apply below_alloc | apply pw_below_drewN | apply below_drew1 | refine below_set ?_ GE146.out | refine below_set ?_ GE148.out | refine below_set ?_ GE152.out) | exact HB.out)⟩
            · replace c43 := Bool.eq_false_iff.mpr c43
              subst c43
              have H1 : ((recantref02_Variable.f (wrap64 (rd l0 a1))).bind fun t157 => (if t157 = true then ((recantref04_most.f kj14 l0 t149 t150 t151 a2 7).bind fun bt158 => (recantref04_body.j1 kj14 l0 a2 (wrap64 (rd l0 a1)) (wrap64 (t149)) (wrap64 (bt158.1)) 0 bt158.1 bt158.2.1 bt158.2.2)) else (recantref04_body.j1 kj14 l0 a2 (wrap64 (rd l0 a1)) (wrap64 (t149)) 0 0 t149 t150 t151))) = some (r1, r2, r3) := by rw [if_neg (show ¬ (false = true) by decide)] at H; exact H
              clear H
              have H := H1
              clear H1
              replace H := Option.bind_eq_some_iff.mp H
              obtain ⟨t157, A470, H⟩ := H
              replace H : (if t157 = true then ((recantref04_most.f kj14 l0 t149 t150 t151 a2 7).bind fun bt158 => (recantref04_body.j1 kj14 l0 a2 (wrap64 (rd l0 a1)) (wrap64 (t149)) (wrap64 (bt158.1)) 0 bt158.1 bt158.2.1 bt158.2.2)) else (recantref04_body.j1 kj14 l0 a2 (wrap64 (rd l0 a1)) (wrap64 (t149)) 0 0 t149 t150 t151)) = some (r1, r2, r3) := H
              have A47 := Aside0.mk A470
              clear A470
              have HC48 := Aside0.mk H
              clear H
              have hnb49 := NB148_146.out
              have hnc49 := NB146_148.out
              have hnb50 := NB148_152.out
              have hnc50 := NB152_148.out
              have hcz51_0 : wc.cell? ⟨gb148, 0, none⟩ = some (.int .i64 (wrap64 (rd l0 a1))) := (blk_cell BK148.out 0).trans rfl
              have hcz51_1 : wc.cell? ⟨gb148, 1, none⟩ = some (.int .i64 (wrap64 (t149))) := (blk_cell BK148.out 1).trans rfl
              have hcz51_2 : wc.cell? ⟨gb148, 2, none⟩ = some (.int .i64 0) := (blk_cell BK148.out 2).trans rfl
              have hcz51_3 : wc.cell? ⟨gb148, 3, none⟩ = some (.int .i64 0) := (blk_cell BK148.out 3).trans rfl
              have hfz51_0 := blk_frozen BK148.out 0
              have hfz51_1 := blk_frozen BK148.out 1
              have hfz51_2 := blk_frozen BK148.out 2
              have hfz51_3 := blk_frozen BK148.out 3
              go_upto_if 55 with (first | ((with_reducible refine gate_callee (f := 56) rfl ?_); refine goesL_ (some 55) rfl rfl Try.func56 (by kernel_rfl) rfl #[.int .i64 (wrap64 (rd l0 a1))] rfl (by (try simp only [List.map_toArray, List.map_cons, List.map_nil]); first | done | rfl | (simp only [List.length_drop, List.length_take]; rfl)) ?_; (with_reducible refine (recantref02_Variable.calls (wrap64 (rd l0 a1)) t157 _ A47.out).mono ?_); rintro e w' ⟨rfl, ⟨nd, rfl⟩⟩; refine ⟨_, rfl, ?_⟩))
              (try simp only [Act.put, List.setIfInBounds_toArray, List.set_cons_zero, List.set_cons_succ])
              go_cut [] (fun wc => ∃ (kq : Nat) (x149002_47 : Int) (x153000_47 : Int) (x153001_47 : Int) (x153002_47 : Int), Aside0 (recantref04_body.j1 kq l0 a2 (wrap64 (rd l0 a1)) (wrap64 (t149)) x149002_47 0 x153000_47 x153001_47 x153002_47 = some (r1, r2, r3)) ∧ Aside0 (kq ≤ kj14) ∧ Aside0 (wc.heap[gb146]? = some (.cells #[(.slice none 0 0), .int .i64 0, .int .i64 0] 44 (0, 0))) ∧ Aside0 (wc.heap[gb148]? = some (.cells #[.int .i64 (wrap64 (rd l0 a1)), .int .i64 (wrap64 (t149)), .int .i64 x149002_47, .int .i64 0] 76 (0, 0))) ∧ Aside0 (wc.heap[gb152]? = some (.cells #[.int .u64 x153000_47, .int .i64 x153001_47, .int .i64 x153002_47] 72 (0, 0))) ∧ Aside0 (Below w.heap.size w wc))
              case first =>
                have H := HC48.out
                clear HC48
                by_cases c52 : t157 = true
                · subst c52
                  have H1 : ((recantref04_most.f kj14 l0 t149 t150 t151 a2 7).bind fun bt158 => (recantref04_body.j1 kj14 l0 a2 (wrap64 (rd l0 a1)) (wrap64 (t149)) (wrap64 (bt158.1)) 0 bt158.1 bt158.2.1 bt158.2.2)) = some (r1, r2, r3) := by rw [if_pos rfl] at H; exact H
                  clear H
                  have H := H1
                  clear H1
                  replace H := Option.bind_eq_some_iff.mp H
                  obtain ⟨⟨t158, t159, t160⟩, A530, H⟩ := H
                  replace H : (recantref04_body.j1 kj14 l0 a2 (wrap64 (rd l0 a1)) (wrap64 (t149)) (wrap64 (t158)) 0 t158 t159 t160) = some (r1, r2, r3) := H
                  have A53 := Aside0.mk A530
                  clear A530
                  have H' := Aside0.mk H
                  clear H
                  have hnb54 := NB152_146.out
                  have hnc54 := NB146_152.out
                  have hnb55 := NB152_148.out
                  have hnc55 := NB148_152.out
                  have hcz56_0 : wc.cell? ⟨gb152, 0, none⟩ = some (.int .u64 t149) := (blk_cell BK152.out 0).trans rfl
                  have hcz56_1 : wc.cell? ⟨gb152, 1, none⟩ = some (.int .i64 t150) := (blk_cell BK152.out 1).trans rfl
                  have hcz56_2 : wc.cell? ⟨gb152, 2, none⟩ = some (.int .i64 t151) := (blk_cell BK152.out 2).trans rfl
                  have hfz56_0 := blk_frozen BK152.out 0
                  have hfz56_1 := blk_frozen BK152.out 1
                  have hfz56_2 := blk_frozen BK152.out 2
                  go_wp2_with (first | ((with_reducible refine gate_callee (f := 53) rfl ?_); refine goesL_ (some 59) rfl rfl Try.func53 (by kernel_rfl) rfl #[.slice (some ad147) l0.length c0, .agg #[.int .u64 t149, .int .i64 t150, .int .i64 t151], .int .i64 a2, .int .u64 7] rfl (by (try simp only [List.map_toArray, List.map_cons, List.map_nil]); first | done | rfl | (simp only [List.length_drop, List.length_take]; rfl)) ?_; (with_reducible refine (recantref04_most.calls kj14 _ _ l0 t149 t150 t151 a2 7 t158 t159 t160 _ ?side1 ?side2 A53.out).mono ?_); (case side1 => repeat (first | exact (Kd.C_below HR0.out HB.out) | (with_reducible refine Kd.C_alloc ?_ _) | (with_reducible refine Kd.C_drewN ?_ _) | (with_reducible refine Kd.C_drew ?_))); (case side2 => exact HC0.out); rintro e w57 ⟨rfl, hb⟩; refine ⟨_, rfl, ?_⟩; have n0_ := Aside0.mk (blk_below (g := gb146) (o := .cells #[.slice none 0 0, .int .i64 0, .int .i64 0] 44 (0, 0)) (by (with_reducible repeat (first | refine blk_drewN ?_ _ | refine blk_drew ?_ | refine blk_alloc ?_ _)); exact BK146.out) hb); have n1_ := Aside0.mk (blk_below (g := gb148) (o := .cells #[.int .i64 (wrap64 (rd l0 a1)), .int .i64 (wrap64 (t149)), .int .i64 0, .int .i64 0] 76 (0, 0)) (by (with_reducible repeat (first | refine blk_drewN ?_ _ | refine blk_drew ?_ | refine blk_alloc ?_ _)); exact BK148.out) hb); have n2_ := Aside0.mk (blk_below (g := gb152) (o := .cells #[.int .u64 t149, .int .i64 t150, .int .i64 t151] 72 (0, 0)) (by (with_reducible repeat (first | refine blk_drewN ?_ _ | refine blk_drew ?_ | refine blk_alloc ?_ _)); exact BK152.out) hb); have n3_ := Aside0.mk (below_step (by repeat (first | (with_reducible first | exact HB.out | apply below_alloc | apply pw_below_drewN | apply below_drew1 | refine below_set ?_ GE146.out | refine below_set ?_ GE148.out | refine below_set ?_ GE152.out) | exact HB.out)) hb); clear BK146; clear BK148; clear BK152; clear HB; have BK146 := n0_; have BK148 := n1_; have BK152 := n2_; have HB := n3_; clear n0_ n1_ n2_ n3_; (try clear hb); (try clear hb2); (try clear hk); (try clear hi); have hcz58_0 : w57.cell? ⟨gb152, 0, none⟩ = some (.int .u64 t149) := (blk_cell BK152.out 0).trans rfl; have hcz58_1 : w57.cell? ⟨gb152, 1, none⟩ = some (.int .i64 t150) := (blk_cell BK152.out 1).trans rfl; have hcz58_2 : w57.cell? ⟨gb152, 2, none⟩ = some (.int .i64 t151) := (blk_cell BK152.out 2).trans rfl; have hfz58_0 := blk_frozen BK152.out 0; have hfz58_1 := blk_frozen BK152.out 1; have hfz58_2 := blk_frozen BK152.out 2; have hnb59 := NB148_146.out; have hnc59 := NB146_148.out; have hcz60_0 : w57.cell? ⟨gb148, 0, none⟩ = some (.int .i64 (wrap64 (rd l0 a1))) := (blk_cell BK148.out 0).trans rfl; have hcz60_1 : w57.cell? ⟨gb148, 1, none⟩ = some (.int .i64 (wrap64 (t149))) := (blk_cell BK148.out 1).trans rfl; have hcz60_2 : w57.cell? ⟨gb148, 2, none⟩ = some (.int .i64 0) := (blk_cell BK148.out 2).trans rfl; have hcz60_3 : w57.cell? ⟨gb148, 3, none⟩ = some (.int .i64 0) := (blk_cell BK148.out 3).trans rfl; have hfz60_0 := blk_frozen BK148.out 0; have hfz60_1 := blk_frozen BK148.out 1; have hfz60_2 := blk_frozen BK148.out 2; have hfz60_3 := blk_frozen BK148.out 3))
                  go_meet
                  case rel => exact ⟨_, (wrap64 (t158)), (t158), (t159), (t160), H', ⟨by have := HJ14.out; first | omega | exact Nat.le_refl _⟩, ⟨by (with_reducible repeat (first | refine blk_drewN ?_ _ | refine blk_drew ?_ | refine blk_alloc ?_ _)); refine blk_far ?_ NB146_148.out _; (with_reducible repeat (first | refine blk_drewN ?_ _ | refine blk_drew ?_ | refine blk_alloc ?_ _)); refine blk_far ?_ NB146_152.out _; (with_reducible repeat (first | refine blk_drewN ?_ _ | refine blk_drew ?_ | refine blk_alloc ?_ _)); refine blk_far ?_ NB146_152.out _; (with_reducible repeat (first | refine blk_drewN ?_ _ | refine blk_drew ?_ | refine blk_alloc ?_ _)); refine blk_far ?_ NB146_152.out _; (with_reducible repeat (first | refine blk_drewN ?_ _ | refine blk_drew ?_ | refine blk_alloc ?_ _)); exact BK146.out⟩, ⟨by (with_reducible repeat (first | refine blk_drewN ?_ _ | refine blk_drew ?_ | refine blk_alloc ?_ _)); refine blk_put (cs := #[.int .i64 (wrap64 (rd l0 a1)), .int .i64 (wrap64 (t149)), .int .i64 0, .int .i64 0]) ?_ 2 _ rfl; (with_reducible repeat (first | refine blk_drewN ?_ _ | refine blk_drew ?_ | refine blk_alloc ?_ _)); refine blk_far ?_ NB148_152.out _; (with_reducible repeat (first | refine blk_drewN ?_ _ | refine blk_drew ?_ | refine blk_alloc ?_ _)); refine blk_far ?_ NB148_152.out _; (with_reducible repeat (first | refine blk_drewN ?_ _ | refine blk_drew ?_ | refine blk_alloc ?_ _)); refine blk_far ?_ NB148_152.out _; (with_reducible repeat (first | refine blk_drewN ?_ _ | refine blk_drew ?_ | refine blk_alloc ?_ _)); exact BK148.out⟩, ⟨by (with_reducible repeat (first | refine blk_drewN ?_ _ | refine blk_drew ?_ | refine blk_alloc ?_ _)); refine blk_far ?_ NB152_148.out _; (with_reducible repeat (first | refine blk_drewN ?_ _ | refine blk_drew ?_ | refine blk_alloc ?_ _)); refine blk_put (cs := #[.int .u64 t158, .int .i64 t159, .int .i64 t151]) ?_ 2 _ rfl; (with_reducible repeat (first | refine blk_drewN ?_ _ | refine blk_drew ?_ | refine blk_alloc ?_ _)); refine blk_put (cs := #[.int .u64 t158, .int .i64 t150, .int .i64 t151]) ?_ 1 _ rfl; (with_reducible repeat (first | refine blk_drewN ?_ _ | refine blk_drew ?_ | refine blk_alloc ?_ _)); refine blk_put (cs := #[.int .u64 t149, .int .i64 t150, .int .i64 t151]) ?_ 0 _ rfl; (with_reducible repeat (first | refine blk_drewN ?_ _ | refine blk_drew ?_ | refine blk_alloc ?_ _)); exact BK152.out⟩, ⟨by repeat (first | (with_reducible first | exact HB.out | apply below_alloc | apply pw_below_drewN | apply below_drew1 | refine below_set ?_ GE146.out | refine below_set ?_ GE148.out | refine below_set ?_ GE152.out) | exact HB.out)⟩⟩
                · replace c52 := Bool.eq_false_iff.mpr c52
                  subst c52
                  have H1 : (recantref04_body.j1 kj14 l0 a2 (wrap64 (rd l0 a1)) (wrap64 (t149)) 0 0 t149 t150 t151) = some (r1, r2, r3) := by rw [if_neg (show ¬ (false = true) by decide)] at H; exact H
                  clear H
                  have H := H1
                  clear H1
                  have H' := Aside0.mk H
                  clear H
                  go_wp2
                  go_meet
                  case rel => exact ⟨_, (0), (t149), (t150), (t151), H', ⟨by have := HJ14.out; first | omega | exact Nat.le_refl _⟩, ⟨by (with_reducible repeat (first | refine blk_drewN ?_ _ | refine blk_drew ?_ | refine blk_alloc ?_ _)); exact BK146.out⟩, ⟨by (with_reducible repeat (first | refine blk_drewN ?_ _ | refine blk_drew ?_ | refine blk_alloc ?_ _)); exact BK148.out⟩, ⟨by (with_reducible repeat (first | refine blk_drewN ?_ _ | refine blk_drew ?_ | refine blk_alloc ?_ _)); exact BK152.out⟩, ⟨by repeat (first | (with_reducible first | exact HB.out | apply below_alloc | apply pw_below_drewN | apply below_drew1 | refine below_set ?_ GE146.out | refine below_set ?_ GE148.out | refine below_set ?_ GE152.out) | exact HB.out)⟩⟩
              case rest =>
                clear HC48
                try clear c1
                try clear p1
                try clear q1
                try clear hx1
                try clear c2
                try clear p2
                try clear c3
                try clear c4
                try clear c5
                try clear c5b0
                try clear c6
                try clear c6b0
                try clear p6
                try clear c7
                try clear c7b0
                try clear c10
                try clear p14
                try clear q14
                try clear hx14
                try clear c18
                try clear c22
                try clear c23
                try clear c27
                try clear c27b0
                try clear c27b1
                try clear c28
                try clear c28b0
                try clear c28b1
                try clear c30
                try clear c31
                try clear c34
                try clear c36
                try clear c37
                try clear c40
                try clear c41
                try clear c43
                try clear c44
                try clear c45
                try clear c47
                try clear c49
                try clear c50
                try clear c52
                try clear c53
                try clear c54
                try clear c55
                try clear c56
                try clear c59
                try clear hcz11_0
                try clear hcz11_1
                try clear hcz11_2
                try clear hcz11_3
                try clear hcz12_0
                try clear hcz12_1
                try clear hcz12_2
                try clear hcz19_0
                try clear hcz19_1
                try clear hcz19_2
                try clear hcz19_3
                try clear hcz24_0
                try clear hcz24_1
                try clear hcz24_2
                try clear hcz25_0
                try clear hcz25_1
                try clear hcz25_2
                try clear hcz25_3
                try clear hcz32_0
                try clear hcz32_1
                try clear hcz32_2
                try clear hcz35_0
                try clear hcz35_1
                try clear hcz35_2
                try clear hcz35_3
                try clear hcz38_0
                try clear hcz38_1
                try clear hcz38_2
                try clear hcz42_0
                try clear hcz42_1
                try clear hcz42_2
                try clear hcz46_0
                try clear hcz46_1
                try clear hcz46_2
                try clear hcz51_0
                try clear hcz51_1
                try clear hcz51_2
                try clear hcz51_3
                try clear hcz56_0
                try clear hcz56_1
                try clear hcz56_2
                try clear hcz58_0
                try clear hcz58_1
                try clear hcz58_2
                try clear hcz60_0
                try clear hcz60_1
                try clear hcz60_2
                try clear hcz60_3
                try clear hfz11_0
                try clear hfz11_1
                try clear hfz11_2
                try clear hfz11_3
                try clear hfz12_0
                try clear hfz12_1
                try clear hfz12_2
                try clear hfz19_0
                try clear hfz19_1
                try clear hfz19_2
                try clear hfz19_3
                try clear hfz24_0
                try clear hfz24_1
                try clear hfz24_2
                try clear hfz25_0
                try clear hfz25_1
                try clear hfz25_2
                try clear hfz25_3
                try clear hfz32_0
                try clear hfz32_1
                try clear hfz32_2
                try clear hfz35_0
                try clear hfz35_1
                try clear hfz35_2
                try clear hfz35_3
                try clear hfz38_0
                try clear hfz38_1
                try clear hfz38_2
                try clear hfz42_0
                try clear hfz42_1
                try clear hfz42_2
                try clear hfz46_0
                try clear hfz46_1
                try clear hfz46_2
                try clear hfz51_0
                try clear hfz51_1
                try clear hfz51_2
                try clear hfz51_3
                try clear hfz56_0
                try clear hfz56_1
                try clear hfz56_2
                try clear hfz58_0
                try clear hfz58_1
                try clear hfz58_2
                try clear hfz60_0
                try clear hfz60_1
                try clear hfz60_2
                try clear hfz60_3
                try clear hx147_0
                try clear p1
                try clear p14
                try clear p147
                try clear p2
                try clear p6
                try clear q1
                try clear q14
                try clear q147
                obtain ⟨kq, x149002_47, x153000_47, x153001_47, x153002_47, HA, HJ47, BK146, BK148, BK152, HB⟩ := hcut
                cases kq with
                | zero => exact absurd HA.out (by simp [recantref04_body.j1])
                | succ kj47 =>
                  have H := HA.out
                  clear HA
                  simp only [recantref04_body.j1] at H
                  replace H := Option.bind_eq_some_iff.mp H
                  obtain ⟨t161, A610, H⟩ := H
                  replace H : (if t161 = true then ((recantref04_signed.f kj47 l0 x153000_47 x153001_47 x153002_47 a2).bind fun bt162 => ((recantref03_Zag.f bt162.1).bind fun t165 => (recantref04_body.j2 kj47 a2 (wrap64 (rd l0 a1)) (wrap64 (t149)) x149002_47 t165 bt162.1 bt162.2.1 bt162.2.2))) else (recantref04_body.j2 kj47 a2 (wrap64 (rd l0 a1)) (wrap64 (t149)) x149002_47 0 x153000_47 x153001_47 x153002_47)) = some (r1, r2, r3) := H
                  have A61 := Aside0.mk A610
                  clear A610
                  have HC62 := Aside0.mk H
                  clear H
                  have hnb63 := NB148_146.out
                  have hnc63 := NB146_148.out
                  have hnb64 := NB148_152.out
                  have hnc64 := NB152_148.out
                  have hcz65_0 : wc.cell? ⟨gb148, 0, none⟩ = some (.int .i64 (wrap64 (rd l0 a1))) := (blk_cell BK148.out 0).trans rfl
                  have hcz65_1 : wc.cell? ⟨gb148, 1, none⟩ = some (.int .i64 (wrap64 (t149))) := (blk_cell BK148.out 1).trans rfl
                  have hcz65_2 : wc.cell? ⟨gb148, 2, none⟩ = some (.int .i64 x149002_47) := (blk_cell BK148.out 2).trans rfl
                  have hcz65_3 : wc.cell? ⟨gb148, 3, none⟩ = some (.int .i64 0) := (blk_cell BK148.out 3).trans rfl
                  have hfz65_0 := blk_frozen BK148.out 0
                  have hfz65_1 := blk_frozen BK148.out 1
                  have hfz65_2 := blk_frozen BK148.out 2
                  have hfz65_3 := blk_frozen BK148.out 3
                  go_upto_if 66 with (first | ((with_reducible refine gate_callee (f := 57) rfl ?_); refine goesL_ (some 66) rfl rfl Try.func57 (by kernel_rfl) rfl #[.int .i64 (wrap64 (rd l0 a1))] rfl (by (try simp only [List.map_toArray, List.map_cons, List.map_nil]); first | done | rfl | (simp only [List.length_drop, List.length_take]; rfl)) ?_; (with_reducible refine (recantref02_Value.calls (wrap64 (rd l0 a1)) t161 _ A61.out).mono ?_); rintro e w' ⟨rfl, ⟨nd, rfl⟩⟩; refine ⟨_, rfl, ?_⟩))
                  (try simp only [Act.put, List.setIfInBounds_toArray, List.set_cons_zero, List.set_cons_succ])
                  go_cut [] (fun wc => ∃ (kq : Nat) (x149003_61 : Int) (x153000_61 : Int) (x153001_61 : Int) (x153002_61 : Int), Aside0 (recantref04_body.j2 kq a2 (wrap64 (rd l0 a1)) (wrap64 (t149)) x149002_47 x149003_61 x153000_61 x153001_61 x153002_61 = some (r1, r2, r3)) ∧ Aside0 (kq ≤ kj47) ∧ Aside0 (wc.heap[gb146]? = some (.cells #[(.slice none 0 0), .int .i64 0, .int .i64 0] 44 (0, 0))) ∧ Aside0 (wc.heap[gb148]? = some (.cells #[.int .i64 (wrap64 (rd l0 a1)), .int .i64 (wrap64 (t149)), .int .i64 x149002_47, .int .i64 x149003_61] 76 (0, 0))) ∧ Aside0 (wc.heap[gb152]? = some (.cells #[.int .u64 x153000_61, .int .i64 x153001_61, .int .i64 x153002_61] 72 (0, 0))) ∧ Aside0 (Below w.heap.size w wc))
                  case first =>
                    have H := HC62.out
                    clear HC62
                    by_cases c66 : t161 = true
                    · subst c66
                      have H1 : ((recantref04_signed.f kj47 l0 x153000_47 x153001_47 x153002_47 a2).bind fun bt162 => ((recantref03_Zag.f bt162.1).bind fun t165 => (recantref04_body.j2 kj47 a2 (wrap64 (rd l0 a1)) (wrap64 (t149)) x149002_47 t165 bt162.1 bt162.2.1 bt162.2.2))) = some (r1, r2, r3) := by rw [if_pos rfl] at H; exact H
                      clear H
                      have H := H1
                      clear H1
                      replace H := Option.bind_eq_some_iff.mp H
                      obtain ⟨⟨t162, t163, t164⟩, A670, H⟩ := H
                      replace H : ((recantref03_Zag.f t162).bind fun t165 => (recantref04_body.j2 kj47 a2 (wrap64 (rd l0 a1)) (wrap64 (t149)) x149002_47 t165 t162 t163 t164)) = some (r1, r2, r3) := H
                      have A67 := Aside0.mk A670
                      clear A670
                      replace H := Option.bind_eq_some_iff.mp H
                      obtain ⟨t165, A680, H⟩ := H
                      replace H : (recantref04_body.j2 kj47 a2 (wrap64 (rd l0 a1)) (wrap64 (t149)) x149002_47 t165 t162 t163 t164) = some (r1, r2, r3) := H
                      have A68 := Aside0.mk A680
                      clear A680
                      have H' := Aside0.mk H
                      clear H
                      have hnb69 := NB152_146.out
                      have hnc69 := NB146_152.out
                      have hnb70 := NB152_148.out
                      have hnc70 := NB148_152.out
                      have hcz71_0 : wc.cell? ⟨gb152, 0, none⟩ = some (.int .u64 x153000_47) := (blk_cell BK152.out 0).trans rfl
                      have hcz71_1 : wc.cell? ⟨gb152, 1, none⟩ = some (.int .i64 x153001_47) := (blk_cell BK152.out 1).trans rfl
                      have hcz71_2 : wc.cell? ⟨gb152, 2, none⟩ = some (.int .i64 x153002_47) := (blk_cell BK152.out 2).trans rfl
                      have hfz71_0 := blk_frozen BK152.out 0
                      have hfz71_1 := blk_frozen BK152.out 1
                      have hfz71_2 := blk_frozen BK152.out 2
                      go_wp2_with (first | ((with_reducible refine gate_callee (f := 58) rfl ?_); refine goesL_ (some 70) rfl rfl Try.func58 (by kernel_rfl) rfl #[.slice (some ad147) l0.length c0, .agg #[.int .u64 x153000_47, .int .i64 x153001_47, .int .i64 x153002_47], .int .i64 a2] rfl (by (try simp only [List.map_toArray, List.map_cons, List.map_nil]); first | done | rfl | (simp only [List.length_drop, List.length_take]; rfl)) ?_; (with_reducible refine (recantref04_signed.calls kj47 _ _ l0 x153000_47 x153001_47 x153002_47 a2 t162 t163 t164 _ ?side1 ?side2 A67.out).mono ?_); (case side1 => repeat (first | exact (Kd.C_below HR0.out HB.out) | (with_reducible refine Kd.C_alloc ?_ _) | (with_reducible refine Kd.C_drewN ?_ _) | (with_reducible refine Kd.C_drew ?_))); (case side2 => exact HC0.out); rintro e w72 ⟨rfl, hb⟩; refine ⟨_, rfl, ?_⟩; have n0_ := Aside0.mk (blk_below (g := gb146) (o := .cells #[.slice none 0 0, .int .i64 0, .int .i64 0] 44 (0, 0)) (by (with_reducible repeat (first | refine blk_drewN ?_ _ | refine blk_drew ?_ | refine blk_alloc ?_ _)); exact BK146.out) hb); have n1_ := Aside0.mk (blk_below (g := gb148) (o := .cells #[.int .i64 (wrap64 (rd l0 a1)), .int .i64 (wrap64 (t149)), .int .i64 x149002_47, .int .i64 0] 76 (0, 0)) (by (with_reducible repeat (first | refine blk_drewN ?_ _ | refine blk_drew ?_ | refine blk_alloc ?_ _)); exact BK148.out) hb); have n2_ := Aside0.mk (blk_below (g := gb152) (o := .cells #[.int .u64 x153000_47, .int .i64 x153001_47, .int .i64 x153002_47] 72 (0, 0)) (by (with_reducible repeat (first | refine blk_drewN ?_ _ | refine blk_drew ?_ | refine blk_alloc ?_ _)); exact BK152.out) hb); have n3_ := Aside0.mk (below_step (by repeat (first | (with_reducible first | exact HB.out | apply below_alloc | apply pw_below_drewN | apply below_drew1 | refine below_set ?_ GE146.out | refine below_set ?_ GE148.out | refine below_set ?_ GE152.out) | exact HB.out)) hb); clear BK146; clear BK148; clear BK152; clear HB; have BK146 := n0_; have BK148 := n1_; have BK152 := n2_; have HB := n3_; clear n0_ n1_ n2_ n3_; (try clear hb); (try clear hb2); (try clear hk); (try clear hi); have hcz73_0 : w72.cell? ⟨gb152, 0, none⟩ = some (.int .u64 x153000_47) := (blk_cell BK152.out 0).trans rfl; have hcz73_1 : w72.cell? ⟨gb152, 1, none⟩ = some (.int .i64 x153001_47) := (blk_cell BK152.out 1).trans rfl; have hcz73_2 : w72.cell? ⟨gb152, 2, none⟩ = some (.int .i64 x153002_47) := (blk_cell BK152.out 2).trans rfl; have hfz73_0 := blk_frozen BK152.out 0; have hfz73_1 := blk_frozen BK152.out 1; have hfz73_2 := blk_frozen BK152.out 2) | ((with_reducible refine gate_callee (f := 19) rfl ?_); refine goesL_ (some 73) rfl rfl Try.func19 (by kernel_rfl) rfl #[.int .u64 t162] rfl (by (try simp only [List.map_toArray, List.map_cons, List.map_nil]); first | done | rfl | (simp only [List.length_drop, List.length_take]; rfl)) ?_; (with_reducible refine (recantref03_Zag.calls t162 t165 _ A68.out).mono ?_); rintro e w' ⟨rfl, ⟨nd, rfl⟩⟩; refine ⟨_, rfl, ?_⟩; have hnb74 := NB148_146.out; have hnc74 := NB146_148.out; have hcz75_0 : w72.cell? ⟨gb148, 0, none⟩ = some (.int .i64 (wrap64 (rd l0 a1))) := (blk_cell BK148.out 0).trans rfl; have hcz75_1 : w72.cell? ⟨gb148, 1, none⟩ = some (.int .i64 (wrap64 (t149))) := (blk_cell BK148.out 1).trans rfl; have hcz75_2 : w72.cell? ⟨gb148, 2, none⟩ = some (.int .i64 x149002_47) := (blk_cell BK148.out 2).trans rfl; have hcz75_3 : w72.cell? ⟨gb148, 3, none⟩ = some (.int .i64 0) := (blk_cell BK148.out 3).trans rfl; have hfz75_0 := blk_frozen BK148.out 0; have hfz75_1 := blk_frozen BK148.out 1; have hfz75_2 := blk_frozen BK148.out 2; have hfz75_3 := blk_frozen BK148.out 3))
                      go_meet
                      case rel => exact ⟨_, (t165), (t162), (t163), (t164), H', ⟨by have := HJ14.out; have := HJ47.out; first | omega | exact Nat.le_refl _⟩, ⟨by (with_reducible repeat (first | refine blk_drewN ?_ _ | refine blk_drew ?_ | refine blk_alloc ?_ _)); refine blk_far ?_ NB146_148.out _; (with_reducible repeat (first | refine blk_drewN ?_ _ | refine blk_drew ?_ | refine blk_alloc ?_ _)); refine blk_far ?_ NB146_152.out _; (with_reducible repeat (first | refine blk_drewN ?_ _ | refine blk_drew ?_ | refine blk_alloc ?_ _)); refine blk_far ?_ NB146_152.out _; (with_reducible repeat (first | refine blk_drewN ?_ _ | refine blk_drew ?_ | refine blk_alloc ?_ _)); refine blk_far ?_ NB146_152.out _; (with_reducible repeat (first | refine blk_drewN ?_ _ | refine blk_drew ?_ | refine blk_alloc ?_ _)); exact BK146.out⟩, ⟨by (with_reducible repeat (first | refine blk_drewN ?_ _ | refine blk_drew ?_ | refine blk_alloc ?_ _)); refine blk_put (cs := #[.int .i64 (wrap64 (rd l0 a1)), .int .i64 (wrap64 (t149)), .int .i64 x149002_47, .int .i64 0]) ?_ 3 _ rfl; (with_reducible repeat (first | refine blk_drewN ?_ _ | refine blk_drew ?_ | refine blk_alloc ?_ _)); refine blk_far ?_ NB148_152.out _; (with_reducible repeat (first | refine blk_drewN ?_ _ | refine blk_drew ?_ | refine blk_alloc ?_ _)); refine blk_far ?_ NB148_152.out _; (with_reducible repeat (first | refine blk_drewN ?_ _ | refine blk_drew ?_ | refine blk_alloc ?_ _)); refine blk_far ?_ NB148_152.out _; (with_reducible repeat (first | refine blk_drewN ?_ _ | refine blk_drew ?_ | refine blk_alloc ?_ _)); exact BK148.out⟩, ⟨by (with_reducible repeat (first | refine blk_drewN ?_ _ | refine blk_drew ?_ | refine blk_alloc ?_ _)); refine blk_far ?_ NB152_148.out _; (with_reducible repeat (first | refine blk_drewN ?_ _ | refine blk_drew ?_ | refine blk_alloc ?_ _)); refine blk_put (cs := #[.int .u64 t162, .int .i64 t163, .int .i64 x153002_47]) ?_ 2 _ rfl; (with_reducible repeat (first | refine blk_drewN ?_ _ | refine blk_drew ?_ | refine blk_alloc ?_ _)); refine blk_put (cs := #[.int .u64 t162, .int .i64 x153001_47, .int .i64 x153002_47]) ?_ 1 _ rfl; (with_reducible repeat (first | refine blk_drewN ?_ _ | refine blk_drew ?_ | refine blk_alloc ?_ _)); refine blk_put (cs := #[.int .u64 x153000_47, .int .i64 x153001_47, .int .i64 x153002_47]) ?_ 0 _ rfl; (with_reducible repeat (first | refine blk_drewN ?_ _ | refine blk_drew ?_ | refine blk_alloc ?_ _)); exact BK152.out⟩, ⟨by repeat (first | (with_reducible first | exact HB.out | apply below_alloc | apply pw_below_drewN | apply below_drew1 | refine below_set ?_ GE146.out | refine below_set ?_ GE148.out | refine below_set ?_ GE152.out) | exact HB.out)⟩⟩
                    · replace c66 := Bool.eq_false_iff.mpr c66
                      subst c66
                      have H1 : (recantref04_body.j2 kj47 a2 (wrap64 (rd l0 a1)) (wrap64 (t149)) x149002_47 0 x153000_47 x153001_47 x153002_47) = some (r1, r2, r3) := by rw [if_neg (show ¬ (false = true) by decide)] at H; exact H
                      clear H
                      have H := H1
                      clear H1
                      have H' := Aside0.mk H
                      clear H
                      go_wp2
                      go_meet
                      case rel => exact ⟨_, (0), (x153000_47), (x153001_47), (x153002_47), H', ⟨by have := HJ14.out; have := HJ47.out; first | omega | exact Nat.le_refl _⟩, ⟨by (with_reducible repeat (first | refine blk_drewN ?_ _ | refine blk_drew ?_ | refine blk_alloc ?_ _)); exact BK146.out⟩, ⟨by (with_reducible repeat (first | refine blk_drewN ?_ _ | refine blk_drew ?_ | refine blk_alloc ?_ _)); exact BK148.out⟩, ⟨by (with_reducible repeat (first | refine blk_drewN ?_ _ | refine blk_drew ?_ | refine blk_alloc ?_ _)); exact BK152.out⟩, ⟨by repeat (first | (with_reducible first | exact HB.out | apply below_alloc | apply pw_below_drewN | apply below_drew1 | refine below_set ?_ GE146.out | refine below_set ?_ GE148.out | refine below_set ?_ GE152.out) | exact HB.out)⟩⟩
                  case rest =>
                    clear HC62
                    try clear c1
                    try clear p1
                    try clear q1
                    try clear hx1
                    try clear c2
                    try clear p2
                    try clear c3
                    try clear c4
                    try clear c5
                    try clear c5b0
                    try clear c6
                    try clear c6b0
                    try clear p6
                    try clear c7
                    try clear c7b0
                    try clear c10
                    try clear p14
                    try clear q14
                    try clear hx14
                    try clear c18
                    try clear c19
                    try clear c22
                    try clear c23
                    try clear c27
                    try clear c27b0
                    try clear c27b1
                    try clear c28
                    try clear c28b0
                    try clear c28b1
                    try clear c30
                    try clear c31
                    try clear c34
                    try clear c36
                    try clear c37
                    try clear c40
                    try clear c41
                    try clear c43
                    try clear c44
                    try clear c45
                    try clear c47
                    try clear c49
                    try clear c50
                    try clear c52
                    try clear c53
                    try clear c54
                    try clear c55
                    try clear c56
                    try clear c57
                    try clear c58
                    try clear c59
                    try clear c63
                    try clear c64
                    try clear p64
                    try clear c66
                    try clear c69
                    try clear c70
                    try clear c74
                    try clear hcz11_0
                    try clear hcz11_1
                    try clear hcz11_2
                    try clear hcz11_3
                    try clear hcz12_0
                    try clear hcz12_1
                    try clear hcz12_2
                    try clear hcz19_0
                    try clear hcz19_1
                    try clear hcz19_2
                    try clear hcz19_3
                    try clear hcz24_0
                    try clear hcz24_1
                    try clear hcz24_2
                    try clear hcz25_0
                    try clear hcz25_1
                    try clear hcz25_2
                    try clear hcz25_3
                    try clear hcz32_0
                    try clear hcz32_1
                    try clear hcz32_2
                    try clear hcz35_0
                    try clear hcz35_1
                    try clear hcz35_2
                    try clear hcz35_3
                    try clear hcz38_0
                    try clear hcz38_1
                    try clear hcz38_2
                    try clear hcz42_0
                    try clear hcz42_1
                    try clear hcz42_2
                    try clear hcz46_0
                    try clear hcz46_1
                    try clear hcz46_2
                    try clear hcz51_0
                    try clear hcz51_1
                    try clear hcz51_2
                    try clear hcz51_3
                    try clear hcz56_0
                    try clear hcz56_1
                    try clear hcz56_2
                    try clear hcz58_0
                    try clear hcz58_1
                    try clear hcz58_2
                    try clear hcz60_0
                    try clear hcz60_1
                    try clear hcz60_2
                    try clear hcz60_3
                    try clear hcz65_0
                    try clear hcz65_1
                    try clear hcz65_2
                    try clear hcz65_3
                    try clear hcz71_0
                    try clear hcz71_1
                    try clear hcz71_2
                    try clear hcz73_0
                    try clear hcz73_1
                    try clear hcz73_2
                    try clear hcz75_0
                    try clear hcz75_1
                    try clear hcz75_2
                    try clear hcz75_3
                    try clear hfz11_0
                    try clear hfz11_1
                    try clear hfz11_2
                    try clear hfz11_3
                    try clear hfz12_0
                    try clear hfz12_1
                    try clear hfz12_2
                    try clear hfz19_0
                    try clear hfz19_1
                    try clear hfz19_2
                    try clear hfz19_3
                    try clear hfz24_0
                    try clear hfz24_1
                    try clear hfz24_2
                    try clear hfz25_0
                    try clear hfz25_1
                    try clear hfz25_2
                    try clear hfz25_3
                    try clear hfz32_0
                    try clear hfz32_1
                    try clear hfz32_2
                    try clear hfz35_0
                    try clear hfz35_1
                    try clear hfz35_2
                    try clear hfz35_3
                    try clear hfz38_0
                    try clear hfz38_1
                    try clear hfz38_2
                    try clear hfz42_0
                    try clear hfz42_1
                    try clear hfz42_2
                    try clear hfz46_0
                    try clear hfz46_1
                    try clear hfz46_2
                    try clear hfz51_0
                    try clear hfz51_1
                    try clear hfz51_2
                    try clear hfz51_3
                    try clear hfz56_0
                    try clear hfz56_1
                    try clear hfz56_2
                    try clear hfz58_0
                    try clear hfz58_1
                    try clear hfz58_2
                    try clear hfz60_0
                    try clear hfz60_1
                    try clear hfz60_2
                    try clear hfz60_3
                    try clear hfz65_0
                    try clear hfz65_1
                    try clear hfz65_2
                    try clear hfz65_3
                    try clear hfz71_0
                    try clear hfz71_1
                    try clear hfz71_2
                    try clear hfz73_0
                    try clear hfz73_1
                    try clear hfz73_2
                    try clear hfz75_0
                    try clear hfz75_1
                    try clear hfz75_2
                    try clear hfz75_3
                    try clear hx147_0
                    try clear p1
                    try clear p14
                    try clear p147
                    try clear p2
                    try clear p6
                    try clear q1
                    try clear q14
                    try clear q147
                    obtain ⟨kq, x149003_61, x153000_61, x153001_61, x153002_61, HA, HJ61, BK146, BK148, BK152, HB⟩ := hcut
                    cases kq with
                    | zero => exact absurd HA.out (by simp [recantref04_body.j2])
                    | succ kj61 =>
                      have H := HA.out
                      clear HA
                      simp only [recantref04_body.j2] at H
                      by_cases c76 : x153002_61 = 0
                      · rw [if_pos c76] at H
                        have c76b0 : (x153002_61 == 0) = true := beq_iff_eq.mpr c76
                        have c76b1 : (x153002_61 != 0) = false := bne_eq_false_iff_eq.mpr c76
                        clear c76
                        by_cases c77 : x153001_61 = a2
                        · rw [if_pos c77] at H
                          have c77b0 : (x153001_61 == a2) = true := beq_iff_eq.mpr c77
                          have c77b1 : (x153001_61 != a2) = false := bne_eq_false_iff_eq.mpr c77
                          clear c77
                          obtain ⟨y166, hy166⟩ : ∃ y_ : List (S76), y_ = (([(⟨(wrap64 (rd l0 a1)), (wrap64 (t149)), x149002_47, x149003_61⟩ : S76)] : List (S76))) := ⟨_, rfl⟩
                          replace H : (some (y166, a2, 0)) = some (r1, r2, r3) := by first | (rw [hy166]; with_reducible exact H) | (have H2_ := (Option.bind_some _ _).symm.trans H; rw [hy166]; with_reducible exact H2_) | (have H2_ := (Option.bind_some _ _).symm.trans H; with_reducible exact H2_) | with_reducible exact H | (rw [hy166]; exact H) | exact H
                          have Ny166 := Aside0.mk hy166
                          clear hy166
                          simp only [Option.some.injEq, Prod.mk.injEq] at H
                          obtain ⟨rfl, rfl, rfl⟩ := H
                          have hnb78 := NB152_146.out
                          have hnc78 := NB146_152.out
                          have hnb79 := NB152_148.out
                          have hnc79 := NB148_152.out
                          have hcz80_0 : wc.cell? ⟨gb152, 0, none⟩ = some (.int .u64 x153000_61) := (blk_cell BK152.out 0).trans rfl
                          have hcz80_1 : wc.cell? ⟨gb152, 1, none⟩ = some (.int .i64 x153001_61) := (blk_cell BK152.out 1).trans rfl
                          have hcz80_2 : wc.cell? ⟨gb152, 2, none⟩ = some (.int .i64 x153002_61) := (blk_cell BK152.out 2).trans rfl
                          have hfz80_0 := blk_frozen BK152.out 0
                          have hfz80_1 := blk_frozen BK152.out 1
                          have hfz80_2 := blk_frozen BK152.out 2
                          have hnb81 := NB148_146.out
                          have hnc81 := NB146_148.out
                          have hcz82_0 : wc.cell? ⟨gb148, 0, none⟩ = some (.int .i64 (wrap64 (rd l0 a1))) := (blk_cell BK148.out 0).trans rfl
                          have hcz82_1 : wc.cell? ⟨gb148, 1, none⟩ = some (.int .i64 (wrap64 (t149))) := (blk_cell BK148.out 1).trans rfl
                          have hcz82_2 : wc.cell? ⟨gb148, 2, none⟩ = some (.int .i64 x149002_47) := (blk_cell BK148.out 2).trans rfl
                          have hcz82_3 : wc.cell? ⟨gb148, 3, none⟩ = some (.int .i64 x149003_61) := (blk_cell BK148.out 3).trans rfl
                          have hfz82_0 := blk_frozen BK148.out 0
                          have hfz82_1 := blk_frozen BK148.out 1
                          have hfz82_2 := blk_frozen BK148.out 2
                          have hfz82_3 := blk_frozen BK148.out 3
                          go_wp2_with (first | ((with_reducible refine gate_dst (N := 91) rfl ?_); (try (refine gate_guard (by rfl) ?_; dsimp only)); refine Kd.R_lit k76 _ 76 ?hg (N := 91) ?hd (xs := ([(⟨(wrap64 (rd l0 a1)), (wrap64 (t149)), x149002_47, x149003_61⟩ : S76)] : List (S76))) (inner := [.int .i64 (wrap64 (rd l0 a1)), .int .i64 (wrap64 (t149)), .int .i64 x149002_47, .int .i64 x149003_61]) (ok := fun _ => True) (okp := fun _ => True) ?hr ?hp (fun _ hk => hk) trivial (Below.refl _ _) (Nat.le_refl _) (by simp) ?_; (case hd => rfl); (case hg => rfl); (case hr => first | (go_simp; done) | (go_simp; rfl)); (case hp => exact (Reps.c4 (show Kd.M k76 _ _ _ (⟨(wrap64 (rd l0 a1)), (wrap64 (t149)), x149002_47, x149003_61⟩ : S76) [.int .i64 (wrap64 (rd l0 a1)), .int .i64 (wrap64 (t149)), .int .i64 x149002_47, .int .i64 x149003_61] from (k76_mkM _ _ _ (⟨(wrap64 (rd l0 a1)), (wrap64 (t149)), x149002_47, x149003_61⟩ : S76) )) (Reps.none _ _))); intro v167 w83 ho84 hb hg_ hnew_; clear hg_ hnew_; (first | rw [← Ny166.out] at ho84 | (simp only [Int.reduceToNat] at ho84; rw [← Ny166.out] at ho84)); have n0_ := Aside0.mk (Kd.R_lower (Kd.R_newB ho84 (g := gb148) (o := .cells #[.int .i64 (wrap64 (rd l0 a1)), .int .i64 (wrap64 (t149)), .int .i64 x149002_47, .int .i64 x149003_61] 76 (0, 0)) (by (with_reducible repeat (first | refine blk_drewN ?_ _ | refine blk_drew ?_ | refine blk_alloc ?_ _)); exact BK148.out)) (below_size (by repeat (first | (with_reducible first | exact HB.out | apply below_alloc | apply pw_below_drewN | apply below_drew1 | refine below_set ?_ GE146.out | refine below_set ?_ GE148.out | refine below_set ?_ GE152.out) | exact HB.out)))); have n1_ := Aside0.mk (blk_below (g := gb146) (o := .cells #[.slice none 0 0, .int .i64 0, .int .i64 0] 44 (0, 0)) (by (with_reducible repeat (first | refine blk_drewN ?_ _ | refine blk_drew ?_ | refine blk_alloc ?_ _)); exact BK146.out) hb); have n2_ := Aside0.mk (blk_below (g := gb148) (o := .cells #[.int .i64 (wrap64 (rd l0 a1)), .int .i64 (wrap64 (t149)), .int .i64 x149002_47, .int .i64 x149003_61] 76 (0, 0)) (by (with_reducible repeat (first | refine blk_drewN ?_ _ | refine blk_drew ?_ | refine blk_alloc ?_ _)); exact BK148.out) hb); have n3_ := Aside0.mk (blk_below (g := gb152) (o := .cells #[.int .u64 x153000_61, .int .i64 x153001_61, .int .i64 x153002_61] 72 (0, 0)) (by (with_reducible repeat (first | refine blk_drewN ?_ _ | refine blk_drew ?_ | refine blk_alloc ?_ _)); exact BK152.out) hb); have n4_ := Aside0.mk (below_step (by repeat (first | (with_reducible first | exact HB.out | apply below_alloc | apply pw_below_drewN | apply below_drew1 | refine below_set ?_ GE146.out | refine below_set ?_ GE148.out | refine below_set ?_ GE152.out) | exact HB.out)) hb); clear BK146; clear BK148; clear BK152; clear HB; have HO168 := n0_; have BK146 := n1_; have BK148 := n2_; have BK152 := n3_; have HB := n4_; clear n0_ n1_ n2_ n3_ n4_; clear hb ho84; obtain ⟨Ao85, co85, eo85⟩ := Kd.R_slice HO168.out; subst eo85; have hcz86_0 : w83.cell? ⟨gb146, 0, none⟩ = some (.slice none 0 0) := (blk_cell BK146.out 0).trans rfl; have hcz86_1 : w83.cell? ⟨gb146, 1, none⟩ = some (.int .i64 0) := (blk_cell BK146.out 1).trans rfl; have hcz86_2 : w83.cell? ⟨gb146, 2, none⟩ = some (.int .i64 0) := (blk_cell BK146.out 2).trans rfl; have hfz86_0 := blk_frozen BK146.out 0; have hfz86_1 := blk_frozen BK146.out 1; have hfz86_2 := blk_frozen BK146.out 2))
                          refine bodyPost_ret (results_cell_row rfl _ _ gb146 44 #[.slice Ao85 y166.length co85, .int .i64 a2, .int .i64 0] (0, 0) _ rfl (by (with_reducible repeat (first | refine blk_drewN ?_ _ | refine blk_drew ?_ | refine blk_alloc ?_ _)); refine blk_put (cs := #[.slice Ao85 y166.length co85, .int .i64 a2, .int .i64 0]) ?_ 2 _ rfl; (with_reducible repeat (first | refine blk_drewN ?_ _ | refine blk_drew ?_ | refine blk_alloc ?_ _)); refine blk_put (cs := #[.slice Ao85 y166.length co85, .int .i64 0, .int .i64 0]) ?_ 1 _ rfl; (with_reducible repeat (first | refine blk_drewN ?_ _ | refine blk_drew ?_ | refine blk_alloc ?_ _)); refine blk_put (cs := #[.slice none 0 0, .int .i64 0, .int .i64 0]) ?_ 0 _ rfl; (with_reducible repeat (first | refine blk_drewN ?_ _ | refine blk_drew ?_ | refine blk_alloc ?_ _)); exact BK146.out) Try.underlying44 rfl (by kernel_rfl)) rfl ?_
                          exact ⟨_, by first | rfl | (simp [errW_none, errW_some] <;> rfl) | (simp [*, errW_none, errW_some] <;> rfl), by (with_reducible repeat (first | apply Kd.R_alloc | apply Kd.R_drewN | apply Kd.R_drew)); exact Kd.R_mono (Kd.R_far (p := ⟨gb146, 2, none⟩) (Kd.R_far (p := ⟨gb146, 1, none⟩) (Kd.R_far (p := ⟨gb146, 0, none⟩) (Kd.R_types HO168.out BK146.out (by decide)) (fun _ hk => hk.2) (.slice Ao85 y166.length co85)) (fun _ hk => hk.2) (.int .i64 a2)) (fun _ hk => hk.2) (.int .i64 0)) (fun _ hk => trivial), by repeat (first | (with_reducible first | exact HB.out | apply below_alloc | apply pw_below_drewN | apply below_drew1 | refine below_set ?_ GE146.out | refine below_set ?_ GE148.out | refine below_set ?_ GE152.out) | exact HB.out)⟩
                        · rw [if_neg c77] at H
                          have c77b0 : (x153001_61 == a2) = false := beq_eq_false_iff_ne.mpr c77
                          have c77b1 : (x153001_61 != a2) = true := bne_iff_ne.mpr c77
                          simp only [Option.some.injEq, Prod.mk.injEq] at H
                          obtain ⟨rfl, rfl, rfl⟩ := H
                          have hnb87 := NB152_146.out
                          have hnc87 := NB146_152.out
                          have hnb88 := NB152_148.out
                          have hnc88 := NB148_152.out
                          have hcz89_0 : wc.cell? ⟨gb152, 0, none⟩ = some (.int .u64 x153000_61) := (blk_cell BK152.out 0).trans rfl
                          have hcz89_1 : wc.cell? ⟨gb152, 1, none⟩ = some (.int .i64 x153001_61) := (blk_cell BK152.out 1).trans rfl
                          have hcz89_2 : wc.cell? ⟨gb152, 2, none⟩ = some (.int .i64 x153002_61) := (blk_cell BK152.out 2).trans rfl
                          have hfz89_0 := blk_frozen BK152.out 0
                          have hfz89_1 := blk_frozen BK152.out 1
                          have hfz89_2 := blk_frozen BK152.out 2
                          have hnb90 := NB146_148.out
                          have hnc90 := NB148_146.out
                          have hcz91_0 : wc.cell? ⟨gb146, 0, none⟩ = some (.slice none 0 0) := (blk_cell BK146.out 0).trans rfl
                          have hcz91_1 : wc.cell? ⟨gb146, 1, none⟩ = some (.int .i64 0) := (blk_cell BK146.out 1).trans rfl
                          have hcz91_2 : wc.cell? ⟨gb146, 2, none⟩ = some (.int .i64 0) := (blk_cell BK146.out 2).trans rfl
                          have hfz91_0 := blk_frozen BK146.out 0
                          have hfz91_1 := blk_frozen BK146.out 1
                          have hfz91_2 := blk_frozen BK146.out 2
                          go_wp2
                          refine bodyPost_ret (results_cell_row rfl _ _ gb146 44 #[.slice none 0 0, .int .i64 x153001_61, .int .i64 2] (0, 0) _ rfl (by (with_reducible repeat (first | refine blk_drewN ?_ _ | refine blk_drew ?_ | refine blk_alloc ?_ _)); refine blk_put (cs := #[.slice none 0 0, .int .i64 x153001_61, .int .i64 0]) ?_ 2 _ rfl; (with_reducible repeat (first | refine blk_drewN ?_ _ | refine blk_drew ?_ | refine blk_alloc ?_ _)); refine blk_put (cs := #[.slice none 0 0, .int .i64 0, .int .i64 0]) ?_ 1 _ rfl; (with_reducible repeat (first | refine blk_drewN ?_ _ | refine blk_drew ?_ | refine blk_alloc ?_ _)); refine blk_put (cs := #[.slice none 0 0, .int .i64 0, .int .i64 0]) ?_ 0 _ rfl; (with_reducible repeat (first | refine blk_drewN ?_ _ | refine blk_drew ?_ | refine blk_alloc ?_ _)); exact BK146.out) Try.underlying44 rfl (by kernel_rfl)) rfl ?_
                          exact ⟨_, by first | rfl | (simp [errW_none, errW_some] <;> rfl) | (simp [*, errW_none, errW_some] <;> rfl), by first | exact Kd.R_nil _ _ _ _ _ | exact Kd.N_nil _ _ _ _ _ | exact Kd.V_nil _ _ _ _ _ | exact Kd.Q_nil _ _ _ _ _ | exact Kd.S_nil _ _ _ _ _, by repeat (first | (with_reducible first | exact HB.out | apply below_alloc | apply pw_below_drewN | apply below_drew1 | refine below_set ?_ GE146.out | refine below_set ?_ GE148.out | refine below_set ?_ GE152.out) | exact HB.out)⟩
                      · rw [if_neg c76] at H
                        have c76b0 : (x153002_61 == 0) = false := beq_eq_false_iff_ne.mpr c76
                        have c76b1 : (x153002_61 != 0) = true := bne_iff_ne.mpr c76
                        simp only [Option.some.injEq, Prod.mk.injEq] at H
                        obtain ⟨rfl, rfl, rfl⟩ := H
                        have hnb92 := NB152_146.out
                        have hnc92 := NB146_152.out
                        have hnb93 := NB152_148.out
                        have hnc93 := NB148_152.out
                        have hcz94_0 : wc.cell? ⟨gb152, 0, none⟩ = some (.int .u64 x153000_61) := (blk_cell BK152.out 0).trans rfl
                        have hcz94_1 : wc.cell? ⟨gb152, 1, none⟩ = some (.int .i64 x153001_61) := (blk_cell BK152.out 1).trans rfl
                        have hcz94_2 : wc.cell? ⟨gb152, 2, none⟩ = some (.int .i64 x153002_61) := (blk_cell BK152.out 2).trans rfl
                        have hfz94_0 := blk_frozen BK152.out 0
                        have hfz94_1 := blk_frozen BK152.out 1
                        have hfz94_2 := blk_frozen BK152.out 2
                        have hnb95 := NB146_148.out
                        have hnc95 := NB148_146.out
                        have hcz96_0 : wc.cell? ⟨gb146, 0, none⟩ = some (.slice none 0 0) := (blk_cell BK146.out 0).trans rfl
                        have hcz96_1 : wc.cell? ⟨gb146, 1, none⟩ = some (.int .i64 0) := (blk_cell BK146.out 1).trans rfl
                        have hcz96_2 : wc.cell? ⟨gb146, 2, none⟩ = some (.int .i64 0) := (blk_cell BK146.out 2).trans rfl
                        have hfz96_0 := blk_frozen BK146.out 0
                        have hfz96_1 := blk_frozen BK146.out 1
                        have hfz96_2 := blk_frozen BK146.out 2
                        go_wp2
                        refine bodyPost_ret (results_cell_row rfl _ _ gb146 44 #[.slice none 0 0, .int .i64 x153001_61, .int .i64 x153002_61] (0, 0) _ rfl (by (with_reducible repeat (first | refine blk_drewN ?_ _ | refine blk_drew ?_ | refine blk_alloc ?_ _)); refine blk_put (cs := #[.slice none 0 0, .int .i64 x153001_61, .int .i64 0]) ?_ 2 _ rfl; (with_reducible repeat (first | refine blk_drewN ?_ _ | refine blk_drew ?_ | refine blk_alloc ?_ _)); refine blk_put (cs := #[.slice none 0 0, .int .i64 0, .int .i64 0]) ?_ 1 _ rfl; (with_reducible repeat (first | refine blk_drewN ?_ _ | refine blk_drew ?_ | refine blk_alloc ?_ _)); refine blk_put (cs := #[.slice none 0 0, .int .i64 0, .int .i64 0]) ?_ 0 _ rfl; (with_reducible repeat (first | refine blk_drewN ?_ _ | refine blk_drew ?_ | refine blk_alloc ?_ _)); exact BK146.out) Try.underlying44 rfl (by kernel_rfl)) rfl ?_
                        exact ⟨_, by first | rfl | (simp [errW_none, errW_some] <;> rfl) | (simp [*, errW_none, errW_some] <;> rfl), by first | exact Kd.R_nil _ _ _ _ _ | exact Kd.N_nil _ _ _ _ _ | exact Kd.V_nil _ _ _ _ _ | exact Kd.Q_nil _ _ _ _ _ | exact Kd.S_nil _ _ _ _ _, by repeat (first | (with_reducible first | exact HB.out | apply below_alloc | apply pw_below_drewN | apply below_drew1 | refine below_set ?_ GE146.out | refine below_set ?_ GE148.out | refine below_set ?_ GE152.out) | exact HB.out)⟩
    · rw [if_neg c6] at H
      exact absurd H (by simp)
  · rw [if_neg c5] at H
    exact absurd H (by simp)

end Go.Proofs.Ythkpocgbinmeiaa.P

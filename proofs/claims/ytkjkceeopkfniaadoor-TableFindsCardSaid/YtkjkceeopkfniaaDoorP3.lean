-- Written by gprint.py, a program of this session's: the kit's print with given functions beside. Not trusted: Lean checks it.
import Derived.Test.YtkjkceeopkfniaaDoorP0
import Derived.Test.YtkjkceeopkfniaaDoorP1
import Derived.Test.YtkjkceeopkfniaaDoorGTable
namespace Go.Proofs.YtkjkceeopkfniaaDoor.P
open Go.RowKit Go.Proofs.YtkjkceeopkfniaaDoorW.PrintWords Go.Proofs.YtkjkceeopkfniaaDoorW.PrintLast Go.Proofs.YtkjkceeopkfniaaDoorW.PrintMore
attribute [local go_sem] max2_int min2_int max_two min_two max_three min_three max_four min_four   -- for this text's walks alone
set_option linter.unusedVariables false
set_option linter.unusedSimpArgs false

attribute [local go_sem high] eqA52
/-! ### recantlaw06_alive: function 20 -/
def recantlaw06_alive.f  : Option (Bool) := (table_Table.f (([(⟨0, 1, 0, 0⟩ : S36), (⟨1, 1, 0, 0⟩ : S36), (⟨2, 1, 2, 0⟩ : S36), (⟨3, 1, 0, 5⟩ : S36)] : List (S36)))).bind fun bt112 => (if bt112.2 = 0 then (if (bt112.1.length : Int) = 1 then (if 0 < (bt112.1.length : Int) then (if ((rd_T34 bt112.1 0).f2) = 3 then (if (((rd_T34 bt112.1 0).f4).length : Int) = 1 then (if 0 < (((rd_T34 bt112.1 0).f4).length : Int) then (some (!((rd_T52 ((rd_T34 bt112.1 0).f4) 0).f0) && (((rd_T52 ((rd_T34 bt112.1 0).f4) 0).f1) == 2 && (((rd_T52 ((rd_T34 bt112.1 0).f4) 0).f2) == 5)))) else (none)) else (some false)) else (some false)) else (none)) else (some false)) else (some false))
set_option maxHeartbeats 8000000 in
set_option maxRecDepth 100000 in
theorem recantlaw06_alive.calls  (r : Bool) (w : World) (h : recantlaw06_alive.f  = some r) (hT : KTab w) :
    Calls Tryd.prog 20 #[] w fun e w' => e = .returned (.bool r) ∧ Below w.heap.size w w' := by
  have HTAB := Aside0.mk hT
  clear hT
  have hu36 := Tryd.underlying36
  have hu52 := Tryd.underlying52
  have HB := Aside0.mk (Below.refl w.heap.size w)
  have H : ((table_Table.f (([(⟨0, 1, 0, 0⟩ : S36), (⟨1, 1, 0, 0⟩ : S36), (⟨2, 1, 2, 0⟩ : S36), (⟨3, 1, 0, 5⟩ : S36)] : List (S36)))).bind fun bt112 => (if bt112.2 = 0 then (if (bt112.1.length : Int) = 1 then (if 0 < (bt112.1.length : Int) then (if ((rd_T34 bt112.1 0).f2) = 3 then (if (((rd_T34 bt112.1 0).f4).length : Int) = 1 then (if 0 < (((rd_T34 bt112.1 0).f4).length : Int) then (some (!((rd_T52 ((rd_T34 bt112.1 0).f4) 0).f0) && (((rd_T52 ((rd_T34 bt112.1 0).f4) 0).f1) == 2 && (((rd_T52 ((rd_T34 bt112.1 0).f4) 0).f2) == 5)))) else (none)) else (some false)) else (some false)) else (none)) else (some false)) else (some false))) = some r := h
  clear h
  obtain ⟨y109, hy109⟩ : ∃ y_ : List (S36), y_ = (([(⟨0, 1, 0, 0⟩ : S36), (⟨1, 1, 0, 0⟩ : S36), (⟨2, 1, 2, 0⟩ : S36), (⟨3, 1, 0, 5⟩ : S36)] : List (S36))) := ⟨_, rfl⟩
  replace H : ((table_Table.f y109).bind fun bt112 => (if bt112.2 = 0 then (if (bt112.1.length : Int) = 1 then (if 0 < (bt112.1.length : Int) then (if ((rd_T34 bt112.1 0).f2) = 3 then (if (((rd_T34 bt112.1 0).f4).length : Int) = 1 then (if 0 < (((rd_T34 bt112.1 0).f4).length : Int) then (some (!((rd_T52 ((rd_T34 bt112.1 0).f4) 0).f0) && (((rd_T52 ((rd_T34 bt112.1 0).f4) 0).f1) == 2 && (((rd_T52 ((rd_T34 bt112.1 0).f4) 0).f2) == 5)))) else (none)) else (some false)) else (some false)) else (none)) else (some false)) else (some false))) = some r := by first | (rw [hy109]; with_reducible exact H) | (have H2_ := (Option.bind_some _ _).symm.trans H; rw [hy109]; with_reducible exact H2_) | (have H2_ := (Option.bind_some _ _).symm.trans H; with_reducible exact H2_) | with_reducible exact H | (rw [hy109]; exact H) | exact H
  have Ny109 := Aside0.mk hy109
  clear hy109
  replace H := Option.bind_eq_some_iff.mp H
  obtain ⟨⟨t112, t113⟩, A10, H⟩ := H
  replace H : (if t113 = 0 then (if (t112.length : Int) = 1 then (if 0 < (t112.length : Int) then (if ((rd_T34 t112 0).f2) = 3 then (if (((rd_T34 t112 0).f4).length : Int) = 1 then (if 0 < (((rd_T34 t112 0).f4).length : Int) then (some (!((rd_T52 ((rd_T34 t112 0).f4) 0).f0) && (((rd_T52 ((rd_T34 t112 0).f4) 0).f1) == 2 && (((rd_T52 ((rd_T34 t112 0).f4) 0).f2) == 5)))) else (none)) else (some false)) else (some false)) else (none)) else (some false)) else (some false)) = some r := H
  have A1 := Aside0.mk A10
  clear A10
  by_cases c2 : t113 = 0
  · rw [if_pos c2] at H
    have c2b0 : (t113 == 0) = true := beq_iff_eq.mpr c2
    have c2b1 : (t113 != 0) = false := bne_eq_false_iff_eq.mpr c2
    clear c2
    by_cases c3 : (t112.length : Int) = 1
    · rw [if_pos c3] at H
      have c3b0 : ((t112.length : Int) == 1) = true := beq_iff_eq.mpr c3
      have c3b1 : ((t112.length : Int) != 1) = false := bne_eq_false_iff_eq.mpr c3
      clear c3
      by_cases c4 : 0 < (t112.length : Int)
      · rw [if_pos c4] at H
        have c4b0 : decide (0 < (t112.length : Int)) = true := decide_eq_true c4
        have c4b1 : decide (0 < t112.length) = true := decide_eq_true (by omega)
        clear c4
        by_cases c5 : ((rd_T34 t112 0).f2) = 3
        · rw [if_pos c5] at H
          have c5b0 : (((rd_T34 t112 0).f2) == 3) = true := beq_iff_eq.mpr c5
          have c5b1 : (((rd_T34 t112 0).f2) != 3) = false := bne_eq_false_iff_eq.mpr c5
          clear c5
          by_cases c6 : (((rd_T34 t112 0).f4).length : Int) = 1
          · rw [if_pos c6] at H
            have c6b0 : ((((rd_T34 t112 0).f4).length : Int) == 1) = true := beq_iff_eq.mpr c6
            have c6b1 : ((((rd_T34 t112 0).f4).length : Int) != 1) = false := bne_eq_false_iff_eq.mpr c6
            clear c6
            by_cases c7 : 0 < (((rd_T34 t112 0).f4).length : Int)
            · rw [if_pos c7] at H
              have c7b0 : decide (0 < (((rd_T34 t112 0).f4).length : Int)) = true := decide_eq_true c7
              have c7b1 : decide (0 < ((rd_T34 t112 0).f4).length) = true := decide_eq_true (by omega)
              clear c7
              obtain rfl := Option.some.inj H
              go_enter Tryd.func20, Tryd.ntmps20
              go_wp2_with (first | ((with_reducible refine gate_dst (N := 8) rfl ?_); (try (refine gate_guard (by rfl) ?_; dsimp only)); refine Kd.R_lit k36 _ 36 ?hg (N := 8) ?hd (xs := ([(⟨0, 1, 0, 0⟩ : S36), (⟨1, 1, 0, 0⟩ : S36), (⟨2, 1, 2, 0⟩ : S36), (⟨3, 1, 0, 5⟩ : S36)] : List (S36))) (inner := [.int .i64 0, .int .i64 1, .int .i64 0, .int .i64 0, .int .i64 1, .int .i64 1, .int .i64 0, .int .i64 0, .int .i64 2, .int .i64 1, .int .i64 2, .int .i64 0, .int .i64 3, .int .i64 1, .int .i64 0, .int .i64 5]) (ok := fun _ => True) (okp := fun _ => True) ?hr ?hp (fun _ hk => hk) trivial (Below.refl _ _) (Nat.le_refl _) (by simp) ?_; (case hd => rfl); (case hg => rfl); (case hr => first | (go_simp; done) | (go_simp; rfl)); (case hp => exact (Reps.c4 (show Kd.M k36 _ _ _ (⟨0, 1, 0, 0⟩ : S36) [.int .i64 0, .int .i64 1, .int .i64 0, .int .i64 0] from (k36_mkM _ _ _ (⟨0, 1, 0, 0⟩ : S36) )) (Reps.c4 (show Kd.M k36 _ _ _ (⟨1, 1, 0, 0⟩ : S36) [.int .i64 1, .int .i64 1, .int .i64 0, .int .i64 0] from (k36_mkM _ _ _ (⟨1, 1, 0, 0⟩ : S36) )) (Reps.c4 (show Kd.M k36 _ _ _ (⟨2, 1, 2, 0⟩ : S36) [.int .i64 2, .int .i64 1, .int .i64 2, .int .i64 0] from (k36_mkM _ _ _ (⟨2, 1, 2, 0⟩ : S36) )) (Reps.c4 (show Kd.M k36 _ _ _ (⟨3, 1, 0, 5⟩ : S36) [.int .i64 3, .int .i64 1, .int .i64 0, .int .i64 5] from (k36_mkM _ _ _ (⟨3, 1, 0, 5⟩ : S36) )) (Reps.none _ _)))))); intro v110 w8 ho9 hb hg_ hnew_; clear hg_ hnew_; (first | rw [← Ny109.out] at ho9 | (simp only [Int.reduceToNat] at ho9; rw [← Ny109.out] at ho9)); have n0_ := Aside0.mk (Kd.R_lower ho9 (below_size (by repeat (first | (with_reducible first | exact HB.out | apply below_alloc | apply pw_below_drewN | apply below_drew1) | exact HB.out)))); have n1_ := Aside0.mk (below_step (by repeat (first | (with_reducible first | exact HB.out | apply below_alloc | apply pw_below_drewN | apply below_drew1) | exact HB.out)) hb); clear HB; have HO111 := n0_; have HB := n1_; clear n0_ n1_; clear hb ho9; obtain ⟨Ao10, co10, eo10⟩ := Kd.R_slice HO111.out; subst eo10) | ((with_reducible refine gate_callee (f := 18) rfl ?_); refine goesL_ (some 9) rfl rfl Tryd.func18 (by kernel_rfl) rfl #[.slice Ao10 y109.length co10] rfl (by (try simp only [List.map_toArray, List.map_cons, List.map_nil]); first | done | rfl | (simp only [List.length_drop, List.length_take]; rfl)) ?_; (with_reducible refine (table_Table.calls _ _ y109 t112 t113 _ ?side1 ?side2 A1.out (KTab.below HTAB.out (by repeat (first | (with_reducible first | exact HB.out | apply below_alloc | apply pw_below_drewN | apply below_drew1) | exact HB.out)))).mono ?_); (case side1 => repeat (first | exact (Kd.R_reads' HO111.out).2.2 | (with_reducible refine Kd.C_alloc ?_ _) | (with_reducible refine Kd.C_drewN ?_ _) | (with_reducible refine Kd.C_drew ?_))); (case side2 => exact (Kd.R_reads' HO111.out).2.1); rintro e w11 ⟨v114, rfl, ho0, hb⟩; refine ⟨_, rfl, ?_⟩; have n0_ := Aside0.mk (Kd.R_below (by (with_reducible repeat (first | apply Kd.R_alloc | apply Kd.R_drewN | apply Kd.R_drew)); exact HO111.out) hb); have n1_ := Aside0.mk (Kd.S_lower ho0 (below_size (by repeat (first | (with_reducible first | exact HB.out | apply below_alloc | apply pw_below_drewN | apply below_drew1) | exact HB.out)))); have n2_ := Aside0.mk (below_step (by repeat (first | (with_reducible first | exact HB.out | apply below_alloc | apply pw_below_drewN | apply below_drew1) | exact HB.out)) hb); clear HO111; clear HB; have HO111 := n0_; have HO115 := n1_; have HB := n2_; clear n0_ n1_ n2_; (try clear hb); (try clear hb2); (try clear hk); (try clear hi); (try clear ho0); obtain ⟨Ao12, co12, eo12⟩ := Kd.S_slice HO115.out; subst eo12; have p116 : 0 ≤ (0 : Int) := (by omega); have q116 : 0 < (t112.length : Int) := of_decide_eq_true (by first | (with_reducible assumption) | assumption); obtain ⟨ad116, A116_4, c116_4, e116, hx116_0, hx116_1, hx116_2, hx116_3, hx116_4, hl116_4, hi116_4⟩ := at_T34 (Kd.S_reads' HO115.out).2.2 0 p116 q116; cases e116; obtain ⟨ce116, hce116, hMe116, hcc116⟩ := Kd.S_get HO115.out z34 0 p116 (by first | exact q116 | exact of_decide_eq_true (by first | (with_reducible assumption) | assumption) | (have e_ := (Kd.S_reads' HO115.out).1; omega)); obtain ⟨ve116_4, rfl, ge116_4⟩ := k34_openM hMe116; have hv116_4 := hcc116 4 _ rfl; rw [add_field _ _ 4 (by omega)] at hv116_4; replace hv116_4 := Option.some.inj (hv116_4.symm.trans hx116_4); rw [hv116_4] at ge116_4; have HL116_4 := Aside0.mk (show Kd.R k52 52 _ _ _ _ ((rd_T34 t112 0).f4) from ge116_4); clear hv116_4 ge116_4; clear hcc116 hce116; have qi116 : (0 < t112.length) = True := eq_true (by omega); (try rw [show ((0 : Int)).toNat = 0 from rfl] at hx116_0); (try rw [show 0 * 5 = 0 from rfl] at hx116_0); (try rw [Addr.add_zero'] at hx116_0); (try rw [show ((0 : Int)).toNat = 0 from rfl] at hx116_1); (try rw [show 0 * 5 = 0 from rfl] at hx116_1); (try rw [Addr.add_zero'] at hx116_1); (try rw [show ((0 : Int)).toNat = 0 from rfl] at hx116_2); (try rw [show 0 * 5 = 0 from rfl] at hx116_2); (try rw [Addr.add_zero'] at hx116_2); (try rw [show ((0 : Int)).toNat = 0 from rfl] at hx116_3); (try rw [show 0 * 5 = 0 from rfl] at hx116_3); (try rw [Addr.add_zero'] at hx116_3); (try rw [show ((0 : Int)).toNat = 0 from rfl] at hx116_4); (try rw [show 0 * 5 = 0 from rfl] at hx116_4); (try rw [Addr.add_zero'] at hx116_4); have HR116_4 := Aside0.mk hi116_4; have HC116_4 := Aside0.mk hl116_4; clear hi116_4 hl116_4; replace p116 := eq_true p116; replace q116 := eq_true q116; have p117 : 0 ≤ (0 : Int) := (by omega); have q117 : 0 < (t112.length : Int) := of_decide_eq_true (by first | (with_reducible assumption) | assumption); obtain ⟨ad117, A117_4, c117_4, e117, hx117_0, hx117_1, hx117_2, hx117_3, hx117_4, hl117_4, hi117_4⟩ := at_T34 (Kd.S_reads' HO115.out).2.2 0 p117 q117; obtain rfl : ad116 = ad117 := (by injection e117); obtain ⟨ce117, hce117, hMe117, hcc117⟩ := Kd.S_get HO115.out z34 0 p117 (by first | exact q117 | exact of_decide_eq_true (by first | (with_reducible assumption) | assumption) | (have e_ := (Kd.S_reads' HO115.out).1; omega)); obtain ⟨ve117_4, rfl, ge117_4⟩ := k34_openM hMe117; have hv117_4 := hcc117 4 _ rfl; rw [add_field _ _ 4 (by omega)] at hv117_4; replace hv117_4 := Option.some.inj (hv117_4.symm.trans hx117_4); rw [hv117_4] at ge117_4; have HL117_4 := Aside0.mk (show Kd.R k52 52 _ _ _ _ ((rd_T34 t112 0).f4) from ge117_4); clear hv117_4 ge117_4; clear hcc117 hce117; have qi117 : (0 < t112.length) = True := eq_true (by omega); (try rw [show ((0 : Int)).toNat = 0 from rfl] at hx117_0); (try rw [show 0 * 5 = 0 from rfl] at hx117_0); (try rw [Addr.add_zero'] at hx117_0); (try rw [show ((0 : Int)).toNat = 0 from rfl] at hx117_1); (try rw [show 0 * 5 = 0 from rfl] at hx117_1); (try rw [Addr.add_zero'] at hx117_1); (try rw [show ((0 : Int)).toNat = 0 from rfl] at hx117_2); (try rw [show 0 * 5 = 0 from rfl] at hx117_2); (try rw [Addr.add_zero'] at hx117_2); (try rw [show ((0 : Int)).toNat = 0 from rfl] at hx117_3); (try rw [show 0 * 5 = 0 from rfl] at hx117_3); (try rw [Addr.add_zero'] at hx117_3); (try rw [show ((0 : Int)).toNat = 0 from rfl] at hx117_4); (try rw [show 0 * 5 = 0 from rfl] at hx117_4); (try rw [Addr.add_zero'] at hx117_4); have HR117_4 := Aside0.mk hi117_4; have HC117_4 := Aside0.mk hl117_4; clear hi117_4 hl117_4; replace p117 := eq_true p117; replace q117 := eq_true q117; have ea_ := Option.some.inj (hx116_4.symm.trans hx117_4); injection ea_ with ea_ en_ ec_; subst ea_; subst ec_; clear en_; have p118 : 0 ≤ (0 : Int) := (by omega); have q118 : 0 < (t112.length : Int) := of_decide_eq_true (by first | (with_reducible assumption) | assumption); obtain ⟨ad118, A118_4, c118_4, e118, hx118_0, hx118_1, hx118_2, hx118_3, hx118_4, hl118_4, hi118_4⟩ := at_T34 (Kd.S_reads' HO115.out).2.2 0 p118 q118; obtain rfl : ad116 = ad118 := (by injection e118); obtain ⟨ce118, hce118, hMe118, hcc118⟩ := Kd.S_get HO115.out z34 0 p118 (by first | exact q118 | exact of_decide_eq_true (by first | (with_reducible assumption) | assumption) | (have e_ := (Kd.S_reads' HO115.out).1; omega)); obtain ⟨ve118_4, rfl, ge118_4⟩ := k34_openM hMe118; have hv118_4 := hcc118 4 _ rfl; rw [add_field _ _ 4 (by omega)] at hv118_4; replace hv118_4 := Option.some.inj (hv118_4.symm.trans hx118_4); rw [hv118_4] at ge118_4; have HL118_4 := Aside0.mk (show Kd.R k52 52 _ _ _ _ ((rd_T34 t112 0).f4) from ge118_4); clear hv118_4 ge118_4; clear hcc118 hce118; have qi118 : (0 < t112.length) = True := eq_true (by omega); (try rw [show ((0 : Int)).toNat = 0 from rfl] at hx118_0); (try rw [show 0 * 5 = 0 from rfl] at hx118_0); (try rw [Addr.add_zero'] at hx118_0); (try rw [show ((0 : Int)).toNat = 0 from rfl] at hx118_1); (try rw [show 0 * 5 = 0 from rfl] at hx118_1); (try rw [Addr.add_zero'] at hx118_1); (try rw [show ((0 : Int)).toNat = 0 from rfl] at hx118_2); (try rw [show 0 * 5 = 0 from rfl] at hx118_2); (try rw [Addr.add_zero'] at hx118_2); (try rw [show ((0 : Int)).toNat = 0 from rfl] at hx118_3); (try rw [show 0 * 5 = 0 from rfl] at hx118_3); (try rw [Addr.add_zero'] at hx118_3); (try rw [show ((0 : Int)).toNat = 0 from rfl] at hx118_4); (try rw [show 0 * 5 = 0 from rfl] at hx118_4); (try rw [Addr.add_zero'] at hx118_4); have HR118_4 := Aside0.mk hi118_4; have HC118_4 := Aside0.mk hl118_4; clear hi118_4 hl118_4; replace p118 := eq_true p118; replace q118 := eq_true q118; have ea_ := Option.some.inj (hx116_4.symm.trans hx118_4); injection ea_ with ea_ en_ ec_; subst ea_; subst ec_; clear en_; have p119 : 0 ≤ (0 : Int) := (by omega); have q119 : 0 < (((rd_T34 t112 0).f4).length : Int) := of_decide_eq_true (by first | (with_reducible assumption) | assumption); obtain ⟨ad119, e119, hx119_0, hx119_1, hx119_2⟩ := at_T52 (by repeat (first | (with_reducible exact HR118_4.out) | (with_reducible refine Kd.C_alloc ?_ _) | (with_reducible refine Kd.C_drewN ?_ _) | (with_reducible refine Kd.C_drew ?_) | exact HR118_4.out)) 0 p119 q119; cases e119; have qi119 : (0 < ((rd_T34 t112 0).f4).length) = True := eq_true (by omega); (try rw [show ((0 : Int)).toNat = 0 from rfl] at hx119_0); (try rw [show 0 * 3 = 0 from rfl] at hx119_0); (try rw [Addr.add_zero'] at hx119_0); (try rw [show ((0 : Int)).toNat = 0 from rfl] at hx119_1); (try rw [show 0 * 3 = 0 from rfl] at hx119_1); (try rw [Addr.add_zero'] at hx119_1); (try rw [show ((0 : Int)).toNat = 0 from rfl] at hx119_2); (try rw [show 0 * 3 = 0 from rfl] at hx119_2); (try rw [Addr.add_zero'] at hx119_2); replace p119 := eq_true p119; replace q119 := eq_true q119))
              go_ret
              exact ⟨by first | rfl | (simp [errW_none, errW_some] <;> rfl) | (simp [*, errW_none, errW_some] <;> rfl), by repeat (first | (with_reducible first | exact HB.out | apply below_alloc | apply pw_below_drewN | apply below_drew1) | exact HB.out)⟩
            · rw [if_neg c7] at H
              exact absurd H (by simp)
          · rw [if_neg c6] at H
            have c6b0 : ((((rd_T34 t112 0).f4).length : Int) == 1) = false := beq_eq_false_iff_ne.mpr c6
            have c6b1 : ((((rd_T34 t112 0).f4).length : Int) != 1) = true := bne_iff_ne.mpr c6
            obtain rfl := Option.some.inj H
            go_enter Tryd.func20, Tryd.ntmps20
            go_wp2_with (first | ((with_reducible refine gate_dst (N := 8) rfl ?_); (try (refine gate_guard (by rfl) ?_; dsimp only)); refine Kd.R_lit k36 _ 36 ?hg (N := 8) ?hd (xs := ([(⟨0, 1, 0, 0⟩ : S36), (⟨1, 1, 0, 0⟩ : S36), (⟨2, 1, 2, 0⟩ : S36), (⟨3, 1, 0, 5⟩ : S36)] : List (S36))) (inner := [.int .i64 0, .int .i64 1, .int .i64 0, .int .i64 0, .int .i64 1, .int .i64 1, .int .i64 0, .int .i64 0, .int .i64 2, .int .i64 1, .int .i64 2, .int .i64 0, .int .i64 3, .int .i64 1, .int .i64 0, .int .i64 5]) (ok := fun _ => True) (okp := fun _ => True) ?hr ?hp (fun _ hk => hk) trivial (Below.refl _ _) (Nat.le_refl _) (by simp) ?_; (case hd => rfl); (case hg => rfl); (case hr => first | (go_simp; done) | (go_simp; rfl)); (case hp => exact (Reps.c4 (show Kd.M k36 _ _ _ (⟨0, 1, 0, 0⟩ : S36) [.int .i64 0, .int .i64 1, .int .i64 0, .int .i64 0] from (k36_mkM _ _ _ (⟨0, 1, 0, 0⟩ : S36) )) (Reps.c4 (show Kd.M k36 _ _ _ (⟨1, 1, 0, 0⟩ : S36) [.int .i64 1, .int .i64 1, .int .i64 0, .int .i64 0] from (k36_mkM _ _ _ (⟨1, 1, 0, 0⟩ : S36) )) (Reps.c4 (show Kd.M k36 _ _ _ (⟨2, 1, 2, 0⟩ : S36) [.int .i64 2, .int .i64 1, .int .i64 2, .int .i64 0] from (k36_mkM _ _ _ (⟨2, 1, 2, 0⟩ : S36) )) (Reps.c4 (show Kd.M k36 _ _ _ (⟨3, 1, 0, 5⟩ : S36) [.int .i64 3, .int .i64 1, .int .i64 0, .int .i64 5] from (k36_mkM _ _ _ (⟨3, 1, 0, 5⟩ : S36) )) (Reps.none _ _)))))); intro v110 w13 ho14 hb hg_ hnew_; clear hg_ hnew_; (first | rw [← Ny109.out] at ho14 | (simp only [Int.reduceToNat] at ho14; rw [← Ny109.out] at ho14)); have n0_ := Aside0.mk (Kd.R_lower ho14 (below_size (by repeat (first | (with_reducible first | exact HB.out | apply below_alloc | apply pw_below_drewN | apply below_drew1) | exact HB.out)))); have n1_ := Aside0.mk (below_step (by repeat (first | (with_reducible first | exact HB.out | apply below_alloc | apply pw_below_drewN | apply below_drew1) | exact HB.out)) hb); clear HB; have HO111 := n0_; have HB := n1_; clear n0_ n1_; clear hb ho14; obtain ⟨Ao15, co15, eo15⟩ := Kd.R_slice HO111.out; subst eo15) | ((with_reducible refine gate_callee (f := 18) rfl ?_); refine goesL_ (some 9) rfl rfl Tryd.func18 (by kernel_rfl) rfl #[.slice Ao15 y109.length co15] rfl (by (try simp only [List.map_toArray, List.map_cons, List.map_nil]); first | done | rfl | (simp only [List.length_drop, List.length_take]; rfl)) ?_; (with_reducible refine (table_Table.calls _ _ y109 t112 t113 _ ?side1 ?side2 A1.out (KTab.below HTAB.out (by repeat (first | (with_reducible first | exact HB.out | apply below_alloc | apply pw_below_drewN | apply below_drew1) | exact HB.out)))).mono ?_); (case side1 => repeat (first | exact (Kd.R_reads' HO111.out).2.2 | (with_reducible refine Kd.C_alloc ?_ _) | (with_reducible refine Kd.C_drewN ?_ _) | (with_reducible refine Kd.C_drew ?_))); (case side2 => exact (Kd.R_reads' HO111.out).2.1); rintro e w16 ⟨v114, rfl, ho0, hb⟩; refine ⟨_, rfl, ?_⟩; have n0_ := Aside0.mk (Kd.R_below (by (with_reducible repeat (first | apply Kd.R_alloc | apply Kd.R_drewN | apply Kd.R_drew)); exact HO111.out) hb); have n1_ := Aside0.mk (Kd.S_lower ho0 (below_size (by repeat (first | (with_reducible first | exact HB.out | apply below_alloc | apply pw_below_drewN | apply below_drew1) | exact HB.out)))); have n2_ := Aside0.mk (below_step (by repeat (first | (with_reducible first | exact HB.out | apply below_alloc | apply pw_below_drewN | apply below_drew1) | exact HB.out)) hb); clear HO111; clear HB; have HO111 := n0_; have HO115 := n1_; have HB := n2_; clear n0_ n1_ n2_; (try clear hb); (try clear hb2); (try clear hk); (try clear hi); (try clear ho0); obtain ⟨Ao17, co17, eo17⟩ := Kd.S_slice HO115.out; subst eo17; have p116 : 0 ≤ (0 : Int) := (by omega); have q116 : 0 < (t112.length : Int) := of_decide_eq_true (by first | (with_reducible assumption) | assumption); obtain ⟨ad116, A116_4, c116_4, e116, hx116_0, hx116_1, hx116_2, hx116_3, hx116_4, hl116_4, hi116_4⟩ := at_T34 (Kd.S_reads' HO115.out).2.2 0 p116 q116; cases e116; obtain ⟨ce116, hce116, hMe116, hcc116⟩ := Kd.S_get HO115.out z34 0 p116 (by first | exact q116 | exact of_decide_eq_true (by first | (with_reducible assumption) | assumption) | (have e_ := (Kd.S_reads' HO115.out).1; omega)); obtain ⟨ve116_4, rfl, ge116_4⟩ := k34_openM hMe116; have hv116_4 := hcc116 4 _ rfl; rw [add_field _ _ 4 (by omega)] at hv116_4; replace hv116_4 := Option.some.inj (hv116_4.symm.trans hx116_4); rw [hv116_4] at ge116_4; have HL116_4 := Aside0.mk (show Kd.R k52 52 _ _ _ _ ((rd_T34 t112 0).f4) from ge116_4); clear hv116_4 ge116_4; clear hcc116 hce116; have qi116 : (0 < t112.length) = True := eq_true (by omega); (try rw [show ((0 : Int)).toNat = 0 from rfl] at hx116_0); (try rw [show 0 * 5 = 0 from rfl] at hx116_0); (try rw [Addr.add_zero'] at hx116_0); (try rw [show ((0 : Int)).toNat = 0 from rfl] at hx116_1); (try rw [show 0 * 5 = 0 from rfl] at hx116_1); (try rw [Addr.add_zero'] at hx116_1); (try rw [show ((0 : Int)).toNat = 0 from rfl] at hx116_2); (try rw [show 0 * 5 = 0 from rfl] at hx116_2); (try rw [Addr.add_zero'] at hx116_2); (try rw [show ((0 : Int)).toNat = 0 from rfl] at hx116_3); (try rw [show 0 * 5 = 0 from rfl] at hx116_3); (try rw [Addr.add_zero'] at hx116_3); (try rw [show ((0 : Int)).toNat = 0 from rfl] at hx116_4); (try rw [show 0 * 5 = 0 from rfl] at hx116_4); (try rw [Addr.add_zero'] at hx116_4); have HR116_4 := Aside0.mk hi116_4; have HC116_4 := Aside0.mk hl116_4; clear hi116_4 hl116_4; replace p116 := eq_true p116; replace q116 := eq_true q116; have p117 : 0 ≤ (0 : Int) := (by omega); have q117 : 0 < (t112.length : Int) := of_decide_eq_true (by first | (with_reducible assumption) | assumption); obtain ⟨ad117, A117_4, c117_4, e117, hx117_0, hx117_1, hx117_2, hx117_3, hx117_4, hl117_4, hi117_4⟩ := at_T34 (Kd.S_reads' HO115.out).2.2 0 p117 q117; obtain rfl : ad116 = ad117 := (by injection e117); obtain ⟨ce117, hce117, hMe117, hcc117⟩ := Kd.S_get HO115.out z34 0 p117 (by first | exact q117 | exact of_decide_eq_true (by first | (with_reducible assumption) | assumption) | (have e_ := (Kd.S_reads' HO115.out).1; omega)); obtain ⟨ve117_4, rfl, ge117_4⟩ := k34_openM hMe117; have hv117_4 := hcc117 4 _ rfl; rw [add_field _ _ 4 (by omega)] at hv117_4; replace hv117_4 := Option.some.inj (hv117_4.symm.trans hx117_4); rw [hv117_4] at ge117_4; have HL117_4 := Aside0.mk (show Kd.R k52 52 _ _ _ _ ((rd_T34 t112 0).f4) from ge117_4); clear hv117_4 ge117_4; clear hcc117 hce117; have qi117 : (0 < t112.length) = True := eq_true (by omega); (try rw [show ((0 : Int)).toNat = 0 from rfl] at hx117_0); (try rw [show 0 * 5 = 0 from rfl] at hx117_0); (try rw [Addr.add_zero'] at hx117_0); (try rw [show ((0 : Int)).toNat = 0 from rfl] at hx117_1); (try rw [show 0 * 5 = 0 from rfl] at hx117_1); (try rw [Addr.add_zero'] at hx117_1); (try rw [show ((0 : Int)).toNat = 0 from rfl] at hx117_2); (try rw [show 0 * 5 = 0 from rfl] at hx117_2); (try rw [Addr.add_zero'] at hx117_2); (try rw [show ((0 : Int)).toNat = 0 from rfl] at hx117_3); (try rw [show 0 * 5 = 0 from rfl] at hx117_3); (try rw [Addr.add_zero'] at hx117_3); (try rw [show ((0 : Int)).toNat = 0 from rfl] at hx117_4); (try rw [show 0 * 5 = 0 from rfl] at hx117_4); (try rw [Addr.add_zero'] at hx117_4); have HR117_4 := Aside0.mk hi117_4; have HC117_4 := Aside0.mk hl117_4; clear hi117_4 hl117_4; replace p117 := eq_true p117; replace q117 := eq_true q117; have ea_ := Option.some.inj (hx116_4.symm.trans hx117_4); injection ea_ with ea_ en_ ec_; subst ea_; subst ec_; clear en_))
            go_ret
            exact ⟨by first | rfl | (simp [errW_none, errW_some] <;> rfl) | (simp [*, errW_none, errW_some] <;> rfl), by repeat (first | (with_reducible first | exact HB.out | apply below_alloc | apply pw_below_drewN | apply below_drew1) | exact HB.out)⟩
        · rw [if_neg c5] at H
          have c5b0 : (((rd_T34 t112 0).f2) == 3) = false := beq_eq_false_iff_ne.mpr c5
          have c5b1 : (((rd_T34 t112 0).f2) != 3) = true := bne_iff_ne.mpr c5
          obtain rfl := Option.some.inj H
          go_enter Tryd.func20, Tryd.ntmps20
          go_wp2_with (first | ((with_reducible refine gate_dst (N := 8) rfl ?_); (try (refine gate_guard (by rfl) ?_; dsimp only)); refine Kd.R_lit k36 _ 36 ?hg (N := 8) ?hd (xs := ([(⟨0, 1, 0, 0⟩ : S36), (⟨1, 1, 0, 0⟩ : S36), (⟨2, 1, 2, 0⟩ : S36), (⟨3, 1, 0, 5⟩ : S36)] : List (S36))) (inner := [.int .i64 0, .int .i64 1, .int .i64 0, .int .i64 0, .int .i64 1, .int .i64 1, .int .i64 0, .int .i64 0, .int .i64 2, .int .i64 1, .int .i64 2, .int .i64 0, .int .i64 3, .int .i64 1, .int .i64 0, .int .i64 5]) (ok := fun _ => True) (okp := fun _ => True) ?hr ?hp (fun _ hk => hk) trivial (Below.refl _ _) (Nat.le_refl _) (by simp) ?_; (case hd => rfl); (case hg => rfl); (case hr => first | (go_simp; done) | (go_simp; rfl)); (case hp => exact (Reps.c4 (show Kd.M k36 _ _ _ (⟨0, 1, 0, 0⟩ : S36) [.int .i64 0, .int .i64 1, .int .i64 0, .int .i64 0] from (k36_mkM _ _ _ (⟨0, 1, 0, 0⟩ : S36) )) (Reps.c4 (show Kd.M k36 _ _ _ (⟨1, 1, 0, 0⟩ : S36) [.int .i64 1, .int .i64 1, .int .i64 0, .int .i64 0] from (k36_mkM _ _ _ (⟨1, 1, 0, 0⟩ : S36) )) (Reps.c4 (show Kd.M k36 _ _ _ (⟨2, 1, 2, 0⟩ : S36) [.int .i64 2, .int .i64 1, .int .i64 2, .int .i64 0] from (k36_mkM _ _ _ (⟨2, 1, 2, 0⟩ : S36) )) (Reps.c4 (show Kd.M k36 _ _ _ (⟨3, 1, 0, 5⟩ : S36) [.int .i64 3, .int .i64 1, .int .i64 0, .int .i64 5] from (k36_mkM _ _ _ (⟨3, 1, 0, 5⟩ : S36) )) (Reps.none _ _)))))); intro v110 w18 ho19 hb hg_ hnew_; clear hg_ hnew_; (first | rw [← Ny109.out] at ho19 | (simp only [Int.reduceToNat] at ho19; rw [← Ny109.out] at ho19)); have n0_ := Aside0.mk (Kd.R_lower ho19 (below_size (by repeat (first | (with_reducible first | exact HB.out | apply below_alloc | apply pw_below_drewN | apply below_drew1) | exact HB.out)))); have n1_ := Aside0.mk (below_step (by repeat (first | (with_reducible first | exact HB.out | apply below_alloc | apply pw_below_drewN | apply below_drew1) | exact HB.out)) hb); clear HB; have HO111 := n0_; have HB := n1_; clear n0_ n1_; clear hb ho19; obtain ⟨Ao20, co20, eo20⟩ := Kd.R_slice HO111.out; subst eo20) | ((with_reducible refine gate_callee (f := 18) rfl ?_); refine goesL_ (some 9) rfl rfl Tryd.func18 (by kernel_rfl) rfl #[.slice Ao20 y109.length co20] rfl (by (try simp only [List.map_toArray, List.map_cons, List.map_nil]); first | done | rfl | (simp only [List.length_drop, List.length_take]; rfl)) ?_; (with_reducible refine (table_Table.calls _ _ y109 t112 t113 _ ?side1 ?side2 A1.out (KTab.below HTAB.out (by repeat (first | (with_reducible first | exact HB.out | apply below_alloc | apply pw_below_drewN | apply below_drew1) | exact HB.out)))).mono ?_); (case side1 => repeat (first | exact (Kd.R_reads' HO111.out).2.2 | (with_reducible refine Kd.C_alloc ?_ _) | (with_reducible refine Kd.C_drewN ?_ _) | (with_reducible refine Kd.C_drew ?_))); (case side2 => exact (Kd.R_reads' HO111.out).2.1); rintro e w21 ⟨v114, rfl, ho0, hb⟩; refine ⟨_, rfl, ?_⟩; have n0_ := Aside0.mk (Kd.R_below (by (with_reducible repeat (first | apply Kd.R_alloc | apply Kd.R_drewN | apply Kd.R_drew)); exact HO111.out) hb); have n1_ := Aside0.mk (Kd.S_lower ho0 (below_size (by repeat (first | (with_reducible first | exact HB.out | apply below_alloc | apply pw_below_drewN | apply below_drew1) | exact HB.out)))); have n2_ := Aside0.mk (below_step (by repeat (first | (with_reducible first | exact HB.out | apply below_alloc | apply pw_below_drewN | apply below_drew1) | exact HB.out)) hb); clear HO111; clear HB; have HO111 := n0_; have HO115 := n1_; have HB := n2_; clear n0_ n1_ n2_; (try clear hb); (try clear hb2); (try clear hk); (try clear hi); (try clear ho0); obtain ⟨Ao22, co22, eo22⟩ := Kd.S_slice HO115.out; subst eo22; have p116 : 0 ≤ (0 : Int) := (by omega); have q116 : 0 < (t112.length : Int) := of_decide_eq_true (by first | (with_reducible assumption) | assumption); obtain ⟨ad116, A116_4, c116_4, e116, hx116_0, hx116_1, hx116_2, hx116_3, hx116_4, hl116_4, hi116_4⟩ := at_T34 (Kd.S_reads' HO115.out).2.2 0 p116 q116; cases e116; obtain ⟨ce116, hce116, hMe116, hcc116⟩ := Kd.S_get HO115.out z34 0 p116 (by first | exact q116 | exact of_decide_eq_true (by first | (with_reducible assumption) | assumption) | (have e_ := (Kd.S_reads' HO115.out).1; omega)); obtain ⟨ve116_4, rfl, ge116_4⟩ := k34_openM hMe116; have hv116_4 := hcc116 4 _ rfl; rw [add_field _ _ 4 (by omega)] at hv116_4; replace hv116_4 := Option.some.inj (hv116_4.symm.trans hx116_4); rw [hv116_4] at ge116_4; have HL116_4 := Aside0.mk (show Kd.R k52 52 _ _ _ _ ((rd_T34 t112 0).f4) from ge116_4); clear hv116_4 ge116_4; clear hcc116 hce116; have qi116 : (0 < t112.length) = True := eq_true (by omega); (try rw [show ((0 : Int)).toNat = 0 from rfl] at hx116_0); (try rw [show 0 * 5 = 0 from rfl] at hx116_0); (try rw [Addr.add_zero'] at hx116_0); (try rw [show ((0 : Int)).toNat = 0 from rfl] at hx116_1); (try rw [show 0 * 5 = 0 from rfl] at hx116_1); (try rw [Addr.add_zero'] at hx116_1); (try rw [show ((0 : Int)).toNat = 0 from rfl] at hx116_2); (try rw [show 0 * 5 = 0 from rfl] at hx116_2); (try rw [Addr.add_zero'] at hx116_2); (try rw [show ((0 : Int)).toNat = 0 from rfl] at hx116_3); (try rw [show 0 * 5 = 0 from rfl] at hx116_3); (try rw [Addr.add_zero'] at hx116_3); (try rw [show ((0 : Int)).toNat = 0 from rfl] at hx116_4); (try rw [show 0 * 5 = 0 from rfl] at hx116_4); (try rw [Addr.add_zero'] at hx116_4); have HR116_4 := Aside0.mk hi116_4; have HC116_4 := Aside0.mk hl116_4; clear hi116_4 hl116_4; replace p116 := eq_true p116; replace q116 := eq_true q116))
          go_ret
          exact ⟨by first | rfl | (simp [errW_none, errW_some] <;> rfl) | (simp [*, errW_none, errW_some] <;> rfl), by repeat (first | (with_reducible first | exact HB.out | apply below_alloc | apply pw_below_drewN | apply below_drew1) | exact HB.out)⟩
      · rw [if_neg c4] at H
        exact absurd H (by simp)
    · rw [if_neg c3] at H
      have c3b0 : ((t112.length : Int) == 1) = false := beq_eq_false_iff_ne.mpr c3
      have c3b1 : ((t112.length : Int) != 1) = true := bne_iff_ne.mpr c3
      obtain rfl := Option.some.inj H
      go_enter Tryd.func20, Tryd.ntmps20
      go_wp2_with (first | ((with_reducible refine gate_dst (N := 8) rfl ?_); (try (refine gate_guard (by rfl) ?_; dsimp only)); refine Kd.R_lit k36 _ 36 ?hg (N := 8) ?hd (xs := ([(⟨0, 1, 0, 0⟩ : S36), (⟨1, 1, 0, 0⟩ : S36), (⟨2, 1, 2, 0⟩ : S36), (⟨3, 1, 0, 5⟩ : S36)] : List (S36))) (inner := [.int .i64 0, .int .i64 1, .int .i64 0, .int .i64 0, .int .i64 1, .int .i64 1, .int .i64 0, .int .i64 0, .int .i64 2, .int .i64 1, .int .i64 2, .int .i64 0, .int .i64 3, .int .i64 1, .int .i64 0, .int .i64 5]) (ok := fun _ => True) (okp := fun _ => True) ?hr ?hp (fun _ hk => hk) trivial (Below.refl _ _) (Nat.le_refl _) (by simp) ?_; (case hd => rfl); (case hg => rfl); (case hr => first | (go_simp; done) | (go_simp; rfl)); (case hp => exact (Reps.c4 (show Kd.M k36 _ _ _ (⟨0, 1, 0, 0⟩ : S36) [.int .i64 0, .int .i64 1, .int .i64 0, .int .i64 0] from (k36_mkM _ _ _ (⟨0, 1, 0, 0⟩ : S36) )) (Reps.c4 (show Kd.M k36 _ _ _ (⟨1, 1, 0, 0⟩ : S36) [.int .i64 1, .int .i64 1, .int .i64 0, .int .i64 0] from (k36_mkM _ _ _ (⟨1, 1, 0, 0⟩ : S36) )) (Reps.c4 (show Kd.M k36 _ _ _ (⟨2, 1, 2, 0⟩ : S36) [.int .i64 2, .int .i64 1, .int .i64 2, .int .i64 0] from (k36_mkM _ _ _ (⟨2, 1, 2, 0⟩ : S36) )) (Reps.c4 (show Kd.M k36 _ _ _ (⟨3, 1, 0, 5⟩ : S36) [.int .i64 3, .int .i64 1, .int .i64 0, .int .i64 5] from (k36_mkM _ _ _ (⟨3, 1, 0, 5⟩ : S36) )) (Reps.none _ _)))))); intro v110 w23 ho24 hb hg_ hnew_; clear hg_ hnew_; (first | rw [← Ny109.out] at ho24 | (simp only [Int.reduceToNat] at ho24; rw [← Ny109.out] at ho24)); have n0_ := Aside0.mk (Kd.R_lower ho24 (below_size (by repeat (first | (with_reducible first | exact HB.out | apply below_alloc | apply pw_below_drewN | apply below_drew1) | exact HB.out)))); have n1_ := Aside0.mk (below_step (by repeat (first | (with_reducible first | exact HB.out | apply below_alloc | apply pw_below_drewN | apply below_drew1) | exact HB.out)) hb); clear HB; have HO111 := n0_; have HB := n1_; clear n0_ n1_; clear hb ho24; obtain ⟨Ao25, co25, eo25⟩ := Kd.R_slice HO111.out; subst eo25) | ((with_reducible refine gate_callee (f := 18) rfl ?_); refine goesL_ (some 9) rfl rfl Tryd.func18 (by kernel_rfl) rfl #[.slice Ao25 y109.length co25] rfl (by (try simp only [List.map_toArray, List.map_cons, List.map_nil]); first | done | rfl | (simp only [List.length_drop, List.length_take]; rfl)) ?_; (with_reducible refine (table_Table.calls _ _ y109 t112 t113 _ ?side1 ?side2 A1.out (KTab.below HTAB.out (by repeat (first | (with_reducible first | exact HB.out | apply below_alloc | apply pw_below_drewN | apply below_drew1) | exact HB.out)))).mono ?_); (case side1 => repeat (first | exact (Kd.R_reads' HO111.out).2.2 | (with_reducible refine Kd.C_alloc ?_ _) | (with_reducible refine Kd.C_drewN ?_ _) | (with_reducible refine Kd.C_drew ?_))); (case side2 => exact (Kd.R_reads' HO111.out).2.1); rintro e w26 ⟨v114, rfl, ho0, hb⟩; refine ⟨_, rfl, ?_⟩; have n0_ := Aside0.mk (Kd.R_below (by (with_reducible repeat (first | apply Kd.R_alloc | apply Kd.R_drewN | apply Kd.R_drew)); exact HO111.out) hb); have n1_ := Aside0.mk (Kd.S_lower ho0 (below_size (by repeat (first | (with_reducible first | exact HB.out | apply below_alloc | apply pw_below_drewN | apply below_drew1) | exact HB.out)))); have n2_ := Aside0.mk (below_step (by repeat (first | (with_reducible first | exact HB.out | apply below_alloc | apply pw_below_drewN | apply below_drew1) | exact HB.out)) hb); clear HO111; clear HB; have HO111 := n0_; have HO115 := n1_; have HB := n2_; clear n0_ n1_ n2_; (try clear hb); (try clear hb2); (try clear hk); (try clear hi); (try clear ho0); obtain ⟨Ao27, co27, eo27⟩ := Kd.S_slice HO115.out; subst eo27))
      go_ret
      exact ⟨by first | rfl | (simp [errW_none, errW_some] <;> rfl) | (simp [*, errW_none, errW_some] <;> rfl), by repeat (first | (with_reducible first | exact HB.out | apply below_alloc | apply pw_below_drewN | apply below_drew1) | exact HB.out)⟩
  · rw [if_neg c2] at H
    have c2b0 : (t113 == 0) = false := beq_eq_false_iff_ne.mpr c2
    have c2b1 : (t113 != 0) = true := bne_iff_ne.mpr c2
    obtain rfl := Option.some.inj H
    go_enter Tryd.func20, Tryd.ntmps20
    go_wp2_with (first | ((with_reducible refine gate_dst (N := 8) rfl ?_); (try (refine gate_guard (by rfl) ?_; dsimp only)); refine Kd.R_lit k36 _ 36 ?hg (N := 8) ?hd (xs := ([(⟨0, 1, 0, 0⟩ : S36), (⟨1, 1, 0, 0⟩ : S36), (⟨2, 1, 2, 0⟩ : S36), (⟨3, 1, 0, 5⟩ : S36)] : List (S36))) (inner := [.int .i64 0, .int .i64 1, .int .i64 0, .int .i64 0, .int .i64 1, .int .i64 1, .int .i64 0, .int .i64 0, .int .i64 2, .int .i64 1, .int .i64 2, .int .i64 0, .int .i64 3, .int .i64 1, .int .i64 0, .int .i64 5]) (ok := fun _ => True) (okp := fun _ => True) ?hr ?hp (fun _ hk => hk) trivial (Below.refl _ _) (Nat.le_refl _) (by simp) ?_; (case hd => rfl); (case hg => rfl); (case hr => first | (go_simp; done) | (go_simp; rfl)); (case hp => exact (Reps.c4 (show Kd.M k36 _ _ _ (⟨0, 1, 0, 0⟩ : S36) [.int .i64 0, .int .i64 1, .int .i64 0, .int .i64 0] from (k36_mkM _ _ _ (⟨0, 1, 0, 0⟩ : S36) )) (Reps.c4 (show Kd.M k36 _ _ _ (⟨1, 1, 0, 0⟩ : S36) [.int .i64 1, .int .i64 1, .int .i64 0, .int .i64 0] from (k36_mkM _ _ _ (⟨1, 1, 0, 0⟩ : S36) )) (Reps.c4 (show Kd.M k36 _ _ _ (⟨2, 1, 2, 0⟩ : S36) [.int .i64 2, .int .i64 1, .int .i64 2, .int .i64 0] from (k36_mkM _ _ _ (⟨2, 1, 2, 0⟩ : S36) )) (Reps.c4 (show Kd.M k36 _ _ _ (⟨3, 1, 0, 5⟩ : S36) [.int .i64 3, .int .i64 1, .int .i64 0, .int .i64 5] from (k36_mkM _ _ _ (⟨3, 1, 0, 5⟩ : S36) )) (Reps.none _ _)))))); intro v110 w28 ho29 hb hg_ hnew_; clear hg_ hnew_; (first | rw [← Ny109.out] at ho29 | (simp only [Int.reduceToNat] at ho29; rw [← Ny109.out] at ho29)); have n0_ := Aside0.mk (Kd.R_lower ho29 (below_size (by repeat (first | (with_reducible first | exact HB.out | apply below_alloc | apply pw_below_drewN | apply below_drew1) | exact HB.out)))); have n1_ := Aside0.mk (below_step (by repeat (first | (with_reducible first | exact HB.out | apply below_alloc | apply pw_below_drewN | apply below_drew1) | exact HB.out)) hb); clear HB; have HO111 := n0_; have HB := n1_; clear n0_ n1_; clear hb ho29; obtain ⟨Ao30, co30, eo30⟩ := Kd.R_slice HO111.out; subst eo30) | ((with_reducible refine gate_callee (f := 18) rfl ?_); refine goesL_ (some 9) rfl rfl Tryd.func18 (by kernel_rfl) rfl #[.slice Ao30 y109.length co30] rfl (by (try simp only [List.map_toArray, List.map_cons, List.map_nil]); first | done | rfl | (simp only [List.length_drop, List.length_take]; rfl)) ?_; (with_reducible refine (table_Table.calls _ _ y109 t112 t113 _ ?side1 ?side2 A1.out (KTab.below HTAB.out (by repeat (first | (with_reducible first | exact HB.out | apply below_alloc | apply pw_below_drewN | apply below_drew1) | exact HB.out)))).mono ?_); (case side1 => repeat (first | exact (Kd.R_reads' HO111.out).2.2 | (with_reducible refine Kd.C_alloc ?_ _) | (with_reducible refine Kd.C_drewN ?_ _) | (with_reducible refine Kd.C_drew ?_))); (case side2 => exact (Kd.R_reads' HO111.out).2.1); rintro e w31 ⟨v114, rfl, ho0, hb⟩; refine ⟨_, rfl, ?_⟩; have n0_ := Aside0.mk (Kd.R_below (by (with_reducible repeat (first | apply Kd.R_alloc | apply Kd.R_drewN | apply Kd.R_drew)); exact HO111.out) hb); have n1_ := Aside0.mk (Kd.S_lower ho0 (below_size (by repeat (first | (with_reducible first | exact HB.out | apply below_alloc | apply pw_below_drewN | apply below_drew1) | exact HB.out)))); have n2_ := Aside0.mk (below_step (by repeat (first | (with_reducible first | exact HB.out | apply below_alloc | apply pw_below_drewN | apply below_drew1) | exact HB.out)) hb); clear HO111; clear HB; have HO111 := n0_; have HO115 := n1_; have HB := n2_; clear n0_ n1_ n2_; (try clear hb); (try clear hb2); (try clear hk); (try clear hi); (try clear ho0)))
    go_ret
    exact ⟨by first | rfl | (simp [errW_none, errW_some] <;> rfl) | (simp [*, errW_none, errW_some] <;> rfl), by repeat (first | (with_reducible first | exact HB.out | apply below_alloc | apply pw_below_drewN | apply below_drew1) | exact HB.out)⟩

/-! ### recantref06_OpsSame: function 24 -/
def recantref06_OpsSame.l0 : Nat → List (S52) → List (S52) → Int → Int → Option (Bool)
  | 0, _, _, _, _ => none
  | k + 1, x0, x1, x12, x13 => if x13 < x12 then (if 0 ≤ x13 then (if x13 < (x0.length : Int) then (if x13 < (x1.length : Int) then (if (!(((rd_T52 x0 x13).f0) == ((rd_T52 x1 x13).f0)) || (!(((rd_T52 x0 x13).f1) == ((rd_T52 x1 x13).f1)) || (!(((rd_T52 x0 x13).f2) == ((rd_T52 x1 x13).f2))))) = true then (some false) else (recantref06_OpsSame.l0 k x0 x1 x12 (wrap64 (x13 + 1)))) else (none)) else (none)) else (none)) else (some true)
def recantref06_OpsSame.f (k : Nat) (l0 : List (S52)) (l1 : List (S52)) : Option (Bool) := if (l0.length : Int) = (l1.length : Int) then (recantref06_OpsSame.l0 k l0 l1 (l0.length : Int) 0) else (some false)
theorem recantref06_OpsSame.mono_l : ∀ k, (∀ y0 y1 y2 y3, LeO (recantref06_OpsSame.l0 k y0 y1 y2 y3) (recantref06_OpsSame.l0 (k + 1) y0 y1 y2 y3))
  | 0 => fun _ _ _ _ r h => by simp [recantref06_OpsSame.l0] at h
  | k + 1 => by
    have ih0 := recantref06_OpsSame.mono_l k
    · intro y0 y1 y2 y3
      unfold recantref06_OpsSame.l0
      repeat' first
      | (with_reducible exact ih0 _ _ _ _)
      | (with_reducible exact LeO.refl _)
      | (with_reducible exact LeO.none _)
      | (with_reducible refine LeO.ite ?_ ?_)
      | (with_reducible refine LeO.bind ?_ (fun _ => ?_))
      | exact ih0 _ _ _ _
      | exact LeO.none _
      | refine LeO.ite ?_ ?_
      | refine LeO.bind ?_ (fun _ => ?_)
theorem recantref06_OpsSame.mono : ∀ a0 a1 k, LeO (recantref06_OpsSame.f k a0 a1) (recantref06_OpsSame.f (k + 1) a0 a1) := by
  intro a0 a1 k
  have ih0 := recantref06_OpsSame.mono_l k
  unfold recantref06_OpsSame.f
  repeat' first
      | (with_reducible exact ih0 _ _ _ _)
      | (with_reducible exact LeO.refl _)
      | (with_reducible exact LeO.none _)
      | (with_reducible refine LeO.ite ?_ ?_)
      | (with_reducible refine LeO.bind ?_ (fun _ => ?_))
      | exact ih0 _ _ _ _
      | exact LeO.none _
      | refine LeO.ite ?_ ?_
      | refine LeO.bind ?_ (fun _ => ?_)
set_option maxHeartbeats 8000000 in
set_option maxRecDepth 100000 in
theorem recantref06_OpsSame.calls (k : Nat) (A0 : Option Addr) (c0 : Nat) (l0 : List (S52)) (A1 : Option Addr) (c1 : Nat) (l1 : List (S52)) (r : Bool) (w : World) (hr0 : Kd.C k52 w A0 l0.length l0) (hc0 : l0.length ≤ c0) (hr1 : Kd.C k52 w A1 l1.length l1) (hc1 : l1.length ≤ c1) (h : recantref06_OpsSame.f k l0 l1 = some r) :
    Calls Tryd.prog 24 #[.slice A0 l0.length c0, .slice A1 l1.length c1] w fun e w' => e = .returned (.bool r) ∧ Drawn0 w w' := by
  have hu52 := Tryd.underlying52
  have HR0 := Aside0.mk hr0
  have HC0 := Aside0.mk hc0
  clear hr0 hc0
  have HR1 := Aside0.mk hr1
  have HC1 := Aside0.mk hc1
  clear hr1 hc1
  have H : (if (l0.length : Int) = (l1.length : Int) then (recantref06_OpsSame.l0 k l0 l1 (l0.length : Int) 0) else (some false)) = some r := h
  clear h
  by_cases c3 : (l0.length : Int) = (l1.length : Int)
  · rw [if_pos c3] at H
    have c3b0 : ((l0.length : Int) == (l1.length : Int)) = true := beq_iff_eq.mpr c3
    have c3b1 : ((l0.length : Int) != (l1.length : Int)) = false := bne_eq_false_iff_eq.mpr c3
    have c3b2 : (l0.length == l1.length) = true := by first | simpa using c3 | (simp at c3 ⊢; omega)
    clear c3
    have H' := Aside0.mk H
    clear H
    go_enter Tryd.func24, Tryd.ntmps24
    go_wp2
    repeat (go_quiet (fail); try go_wp2)
    go_loopg [13] k (fun kq v13 w' => ∃ (x13_1 : Int), v13 = .int .i64 x13_1 ∧ Aside0 (recantref06_OpsSame.l0 kq l0 l1 (l0.length : Int) x13_1 = some r) ∧ Aside0 (kq ≤ k) ∧ Drawn0 w w')
    case atStart => exact ⟨(0), (by first | rfl | (simp; done) | (simp [*]; done)), H', ⟨Nat.le_refl _⟩, by repeat (first | exact Drawn0.refl _ | apply Drawn0.step)⟩
    case round =>
      clear H'
      try clear c1
      try clear c2
      try clear p2
      try clear c3
      try clear c3b0
      try clear c3b1
      try clear c3b2
      obtain ⟨x13_1, rfl, HA, HK1, ⟨m1, rfl⟩⟩ := hrel
      cases gk with
      | zero => exact absurd HA.out (by simp [recantref06_OpsSame.l0])
      | succ k1 =>
        have H := HA.out
        clear HA
        simp only [recantref06_OpsSame.l0] at H
        by_cases c4 : x13_1 < (l0.length : Int)
        · rw [if_pos c4] at H
          have c4b0 : decide (x13_1 < (l0.length : Int)) = true := decide_eq_true c4
          clear c4
          by_cases c5 : 0 ≤ x13_1
          · rw [if_pos c5] at H
            have c5b0 : decide (0 ≤ x13_1) = true := decide_eq_true c5
            clear c5
            by_cases c6 : x13_1 < (l0.length : Int)
            · rw [if_pos c6] at H
              have c6b0 : decide (x13_1 < (l0.length : Int)) = true := decide_eq_true c6
              clear c6
              by_cases c7 : x13_1 < (l1.length : Int)
              · rw [if_pos c7] at H
                have c7b0 : decide (x13_1 < (l1.length : Int)) = true := decide_eq_true c7
                clear c7
                by_cases c8 : (!(((rd_T52 l0 x13_1).f0) == ((rd_T52 l1 x13_1).f0)) || (!(((rd_T52 l0 x13_1).f1) == ((rd_T52 l1 x13_1).f1)) || (!(((rd_T52 l0 x13_1).f2) == ((rd_T52 l1 x13_1).f2))))) = true
                · rw [if_pos c8] at H
                  have c8b0 : (!(((rd_T52 l0 x13_1).f0) == ((rd_T52 l1 x13_1).f0)) || (!(((rd_T52 l0 x13_1).f1) == ((rd_T52 l1 x13_1).f1)) || (!(((rd_T52 l0 x13_1).f2) == ((rd_T52 l1 x13_1).f2))))) = true := c8
                  clear c8
                  obtain rfl := Option.some.inj H
                  have p120 : 0 ≤ (x13_1 : Int) := of_decide_eq_true (by first | (with_reducible assumption) | assumption)
                  have q120 : x13_1 < (l0.length : Int) := of_decide_eq_true (by first | (with_reducible assumption) | assumption)
                  obtain ⟨ad120, e120, hx120_0, hx120_1, hx120_2⟩ := at_T52 HR0.out x13_1 p120 q120
                  cases e120
                  replace p120 := eq_true p120
                  replace q120 := eq_true q120
                  have p121 : 0 ≤ (x13_1 : Int) := of_decide_eq_true (by first | (with_reducible assumption) | assumption)
                  have q121 : x13_1 < (l1.length : Int) := of_decide_eq_true (by first | (with_reducible assumption) | assumption)
                  obtain ⟨ad121, e121, hx121_0, hx121_1, hx121_2⟩ := at_T52 HR1.out x13_1 p121 q121
                  cases e121
                  replace p121 := eq_true p121
                  replace q121 := eq_true q121
                  go_wp2
                  repeat (go_quiet (fail); try go_wp2)
                  go_ret
                  exact ⟨by first | rfl | (simp; done) | (simp [*]; done), by repeat (first | exact Drawn0.refl _ | apply Drawn0.step)⟩
                · rw [if_neg c8] at H
                  have c8b0 : (!(((rd_T52 l0 x13_1).f0) == ((rd_T52 l1 x13_1).f0)) || (!(((rd_T52 l0 x13_1).f1) == ((rd_T52 l1 x13_1).f1)) || (!(((rd_T52 l0 x13_1).f2) == ((rd_T52 l1 x13_1).f2))))) = false := by simpa using c8
                  clear c8
                  have H' := Aside0.mk H
                  clear H
                  have p120 : 0 ≤ (x13_1 : Int) := of_decide_eq_true (by first | (with_reducible assumption) | assumption)
                  have q120 : x13_1 < (l0.length : Int) := of_decide_eq_true (by first | (with_reducible assumption) | assumption)
                  obtain ⟨ad120, e120, hx120_0, hx120_1, hx120_2⟩ := at_T52 HR0.out x13_1 p120 q120
                  cases e120
                  replace p120 := eq_true p120
                  replace q120 := eq_true q120
                  have p121 : 0 ≤ (x13_1 : Int) := of_decide_eq_true (by first | (with_reducible assumption) | assumption)
                  have q121 : x13_1 < (l1.length : Int) := of_decide_eq_true (by first | (with_reducible assumption) | assumption)
                  obtain ⟨ad121, e121, hx121_0, hx121_1, hx121_2⟩ := at_T52 HR1.out x13_1 p121 q121
                  cases e121
                  replace p121 := eq_true p121
                  replace q121 := eq_true q121
                  go_wp2
                  repeat (go_quiet (fail); try go_wp2)
                  go_roundg k1
                  case measure => have := HK1.out; omega
                  case rel => exact ⟨(wrap64 (x13_1 + 1)), (by first | rfl | (simp; done) | (simp [*]; done)), H', ⟨by have := HK1.out; omega⟩, by repeat (first | exact Drawn0.refl _ | apply Drawn0.step)⟩
              · rw [if_neg c7] at H
                exact absurd H (by simp)
            · rw [if_neg c6] at H
              exact absurd H (by simp)
          · rw [if_neg c5] at H
            exact absurd H (by simp)
        · rw [if_neg c4] at H
          have c4b0 : decide (x13_1 < (l0.length : Int)) = false := decide_eq_false c4
          clear c4
          obtain rfl := Option.some.inj H
          go_wp2
          repeat (go_quiet (fail); try go_wp2)
          go_ret
          exact ⟨by first | rfl | (simp; done) | (simp [*]; done), by repeat (first | exact Drawn0.refl _ | apply Drawn0.step)⟩
  · rw [if_neg c3] at H
    have c3b0 : ((l0.length : Int) == (l1.length : Int)) = false := beq_eq_false_iff_ne.mpr c3
    have c3b1 : ((l0.length : Int) != (l1.length : Int)) = true := bne_iff_ne.mpr c3
    have c3b2 : (l0.length == l1.length) = false := by first | simpa using c3 | (simp at c3 ⊢; omega)
    obtain rfl := Option.some.inj H
    go_enter Tryd.func24, Tryd.ntmps24
    go_wp2
    repeat (go_quiet (fail); try go_wp2)
    go_ret
    exact ⟨by first | rfl | (simp; done) | (simp [*]; done), by repeat (first | exact Drawn0.refl _ | apply Drawn0.step)⟩

end Go.Proofs.YtkjkceeopkfniaaDoor.P

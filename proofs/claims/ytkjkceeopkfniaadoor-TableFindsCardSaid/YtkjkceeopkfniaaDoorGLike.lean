/- table.Like, given: whether two rows of transactions are the same. -/
import Derived.Test.YtkjkceeopkfniaaDoorGSame
import Derived.Test.YtkjkceeopkfniaaDoorP4
import Derived.RangeFuncBox
import Derived.WalkSpells
namespace Go.Proofs.YtkjkceeopkfniaaDoor.P
set_option linter.unusedVariables false
set_option linter.unusedSimpArgs false
open Go Go.RowKit Go.Proofs.YtkjkceeopkfniaaDoorW.PrintWords Go.Proofs.YtkjkceeopkfniaaDoorW.PrintLast Go.Proofs.YtkjkceeopkfniaaDoorW.PrintMore Go.Proofs.YtkjkceeopkfniaaDoor.U

theorem equal_ev (s t : List S52) (hs : s.length ≤ 9223372036854775807) (hl : s.length = t.length) (d : Nat) : ∀ i : Nat, i + d = s.length → Ev (fun k => api_Op.l0 k s t (s.length : Int) (i : Int)) (eqOs (s.drop i) (t.drop i)) := by
  induction d with
  | zero =>
    intro i hi
    refine ⟨1, fun k hk => ?_⟩
    obtain ⟨k, rfl⟩ : ∃ m, k = m + 1 := ⟨k - 1, by omega⟩
    simp only [api_Op.l0]
    rw [if_neg (by omega), List.drop_eq_nil_of_le (by omega : s.length ≤ i), List.drop_eq_nil_of_le (by omega : t.length ≤ i)]
    rfl
  | succ d ih =>
    intro i hi
    obtain ⟨K, e⟩ := ih (i + 1) (by omega)
    refine ⟨K + 1, fun k hk => ?_⟩
    obtain ⟨k, rfl⟩ : ∃ m, k = m + 1 := ⟨k - 1, by omega⟩
    have e := e k (by omega)
    dsimp only at e
    simp only [api_Op.l0]
    rw [if_pos (by omega), if_pos (by omega), if_pos (by omega), if_pos (by omega), w64 (by omega) (by omega), show ((i : Int) + 1) = ((i + 1 : Nat) : Int) by omega, e, eqOs_drop s t i (by omega) (by omega)]
    have hb : (!((rd_T52 s (i : Int)).f0 == (rd_T52 t (i : Int)).f0) || (!((rd_T52 s (i : Int)).f1 == (rd_T52 t (i : Int)).f1) || (!((rd_T52 s (i : Int)).f2 == (rd_T52 t (i : Int)).f2)))) = !eqO (rd_T52 s (i : Int)) (rd_T52 t (i : Int)) := by
      unfold eqO
      simp [Bool.not_and]
    rw [hb]
    cases eqO (rd_T52 s (i : Int)) (rd_T52 t (i : Int)) with
    | true => rw [if_neg (by simp)]; simp
    | false => rw [if_pos (by simp)]; simp
theorem equal_f (s t : List S52) (hs : s.length ≤ 9223372036854775807) : Ev (fun k => api_Op.f k s t) (eqOs s t) := by
  by_cases hl : s.length = t.length
  · obtain ⟨K, e⟩ := equal_ev s t hs hl s.length 0 (by omega)
    refine ⟨K, fun k hk => ?_⟩
    have e := e k hk
    show api_Op.f k s t = some (eqOs s t)
    unfold api_Op.f
    rw [if_pos (by omega)]
    exact e
  · refine ⟨0, fun k _ => ?_⟩
    show api_Op.f k s t = some (eqOs s t)
    unfold api_Op.f
    rw [if_neg (by omega), eqOs_len hl]
theorem equal_run (A0 : Option Addr) (c0 : Nat) (s : List S52) (A1 : Option Addr) (c1 : Nat) (t : List S52) (W : World) (hr0 : Kd.C k52 W A0 s.length s) (hc0 : s.length ≤ c0) (hr1 : Kd.C k52 W A1 t.length t) (hc1 : t.length ≤ c1) :
    Calls Tryd.prog 123 #[.slice A0 s.length c0, .slice A1 t.length c1] W fun e w' => e = .returned (.bool (eqOs s t)) ∧ Drawn0 W w' := by
  obtain ⟨K, e⟩ := equal_f s t hr0.2.1
  exact api_Op.calls K A0 c0 s A1 c1 t _ W hr0 hc0 hr1 hc1 (e K (Nat.le_refl _))
theorem like_int (x : Int) : intOf (.int .i64 x) = x := rfl
theorem like_box5 {W w : World} {g : Nat} {t : TypeId} {a0 a1 a2 a3 a4 : Value} (h : w.heap[g]? = some (.cells #[a0, a1, a2, a3, a4] t (0, 0))) (hb : Below W.heap.size W w) (hg : W.heap.size ≤ g) (x0 x1 x2 x3 x4 : Value) :
    ((((((w.setCell ⟨g, 0, none⟩ x0).setCell ⟨g, 1, none⟩ x1).setCell ⟨g, 2, none⟩ x2).setCell ⟨g, 3, none⟩ x3).setCell ⟨g, 4, none⟩ x4).heap[g]? = some (.cells #[x0, x1, x2, x3, x4] t (0, 0))) ∧ Below W.heap.size W (((((w.setCell ⟨g, 0, none⟩ x0).setCell ⟨g, 1, none⟩ x1).setCell ⟨g, 2, none⟩ x2).setCell ⟨g, 3, none⟩ x3).setCell ⟨g, 4, none⟩ x4) := by
  refine ⟨?_, ((((hb.setCell (p := ⟨g, 0, none⟩) hg _).setCell (p := ⟨g, 1, none⟩) hg _).setCell (p := ⟨g, 2, none⟩) hg _).setCell (p := ⟨g, 3, none⟩) hg _).setCell (p := ⟨g, 4, none⟩) hg _⟩
  have := blk_set (blk_set (blk_set (blk_set (blk_set h 0 x0) 1 x1) 2 x2) 3 x3) 4 x4
  simpa using this
/-- Whether two transactions are the same. -/
theorem like_run (A4 : Option Addr) (c4 : Nat) (B4 : Option Addr) (d4 : Nat) (a0 a1 a2 a3 : Int) (oa : List S52) (b0 b1 b2 b3 : Int) (ob : List S52) (W : World) (hx : Kd.C k52 W A4 oa.length oa) (hxc : oa.length ≤ c4) (hy : Kd.C k52 W B4 ob.length ob) (hyc : ob.length ≤ d4) :
    Calls Tryd.prog 83 #[.agg #[.int .i64 a0, .int .i64 a1, .int .i64 a2, .int .i64 a3, .slice A4 oa.length c4], .agg #[.int .i64 b0, .int .i64 b1, .int .i64 b2, .int .i64 b3, .slice B4 ob.length d4]] W fun e w' => e = .returned (.bool (eqT ⟨a0, a1, a2, a3, oa⟩ ⟨b0, b1, b2, b3, ob⟩)) ∧ Below W.heap.size W w' := by
  have hop := fun w (hw : Below W.heap.size W w) => equal_run A4 c4 oa B4 d4 ob w (Kd.C_below hx hw) hxc (Kd.C_below hy hw) hyc
  obtain ⟨r, hr⟩ : ∃ r, r = eqT ⟨a0, a1, a2, a3, oa⟩ ⟨b0, b1, b2, b3, ob⟩ := ⟨_, rfl⟩
  rw [← hr]
  unfold eqT at hr
  dsimp only at hr
  obtain ⟨o, ho⟩ : ∃ o, o = eqOs oa ob := ⟨_, rfl⟩
  rw [← ho] at hr hop
  have HOP := Lib.hid hop
  clear hop hx hxc hy hyc ho
  go_enter Tryd.func83, Tryd.ntmps83
  go_upto_region 1 with (first
    | ((with_reducible refine gate_dst (N := 2) rfl ?_); refine box_event ?hg (N := 2) ?hd (cs := #[.int .i64 a0, .int .i64 a1, .int .i64 a2, .int .i64 a3, .slice A4 oa.length c4]) (t := 34) ?hr ?_; (case hd => rfl); (case hg => rfl); (case hr => first | (go_simp; done) | (go_simp; rfl)); intro ga gah gaw hbox hb; have gaX := Lib.hid hbox; have gaB := Lib.hid hb; have gaH := Lib.hid gah; clear gah; clear hbox hb)
    | ((with_reducible refine gate_dst (N := 3) rfl ?_); refine box_event ?hg (N := 3) ?hd (cs := #[.int .i64 b0, .int .i64 b1, .int .i64 b2, .int .i64 b3, .slice B4 ob.length d4]) (t := 34) ?hr ?_; (case hd => rfl); (case hg => rfl); (case hr => first | (go_simp; done) | (go_simp; rfl)); intro gb gbh gbw hbox hb; have gbX := Lib.hid hbox; have gbB := Lib.hid hb; have gbH := Lib.hid gbh; clear gbh; have gbz0 : gbw.cell? ⟨gb, 0, none⟩ = some (.int .i64 b0) := (blk_cell hbox 0).trans rfl; have gbz1 : gbw.cell? ⟨gb, 1, none⟩ = some (.int .i64 b1) := (blk_cell hbox 1).trans rfl; have gbz2 : gbw.cell? ⟨gb, 2, none⟩ = some (.int .i64 b2) := (blk_cell hbox 2).trans rfl; have gbz3 : gbw.cell? ⟨gb, 3, none⟩ = some (.int .i64 b3) := (blk_cell hbox 3).trans rfl; have gbz4 : gbw.cell? ⟨gb, 4, none⟩ = some (.slice B4 ob.length d4) := (blk_cell hbox 4).trans rfl; clear hbox hb))
  have HAB := Lib.hid (gaB.out.trans (gbB.out.mono gaB.out.size))
  have HAX := Lib.hid (blk_below gaX.out gbB.out)
  have gaz0 : gbw.cell? ⟨ga, 0, none⟩ = some (.int .i64 a0) := (blk_cell HAX.out 0).trans rfl
  have gaz1 : gbw.cell? ⟨ga, 1, none⟩ = some (.int .i64 a1) := (blk_cell HAX.out 1).trans rfl
  have gaz2 : gbw.cell? ⟨ga, 2, none⟩ = some (.int .i64 a2) := (blk_cell HAX.out 2).trans rfl
  have gaz3 : gbw.cell? ⟨ga, 3, none⟩ = some (.int .i64 a3) := (blk_cell HAX.out 3).trans rfl
  have gaz4 : gbw.cell? ⟨ga, 4, none⟩ = some (.slice A4 oa.length c4) := (blk_cell HAX.out 4).trans rfl
  by_cases e0 : a0 = b0
  · subst e0
    rw [beq_self_eq_true, Bool.true_and] at hr
    by_cases e1 : a1 = b1
    · subst e1
      rw [beq_self_eq_true, Bool.true_and] at hr
      by_cases e2 : a2 = b2
      · subst e2
        rw [beq_self_eq_true, Bool.true_and] at hr
        by_cases e3 : a3 = b3
        · subst e3
          rw [beq_self_eq_true, Bool.true_and] at hr
          have HR := Lib.hid hr
          clear hr
          go_wp2_with (go_at_call 123; refine (HOP.out _ HAB.out).mono ?_; rintro x w3 ⟨rfl, ⟨hd⟩⟩; obtain ⟨n3, rfl⟩ := hd; have HB3 := Lib.hid (pw_below_drewN HAB.out n3))
          go_ret
          exact ⟨by rw [HR.out]; rfl, HB3.out⟩
        · have n0 : (a3 == b3) = false := beq_eq_false_iff_ne.2 e3
          rw [n0, Bool.false_and] at hr
          subst hr
          clear e3
          go_wp2
          go_ret
          exact ⟨rfl, HAB.out⟩
      · have n0 : (a2 == b2) = false := beq_eq_false_iff_ne.2 e2
        rw [n0, Bool.false_and] at hr
        subst hr
        clear e2
        go_wp2
        go_ret
        exact ⟨rfl, HAB.out⟩
    · have n0 : (a1 == b1) = false := beq_eq_false_iff_ne.2 e1
      rw [n0, Bool.false_and] at hr
      subst hr
      clear e1
      go_wp2
      go_ret
      exact ⟨rfl, HAB.out⟩
  · have n0 : (a0 == b0) = false := beq_eq_false_iff_ne.2 e0
    rw [n0, Bool.false_and] at hr
    subst hr
    clear e0
    go_wp2
    go_ret
    exact ⟨rfl, HAB.out⟩
set_option maxHeartbeats 4000000 in
set_option maxRecDepth 100000 in
theorem equal_like (A0 : Option Addr) (c0 : Nat) (l0 : List S34) (A1 : Option Addr) (c1 : Nat) (l1 : List S34) (W : World) (hr0 : Kd.C k34 W A0 l0.length l0) (hr1 : Kd.C k34 W A1 l1.length l1) :
    Calls Tryd.prog 82 #[.slice A0 l0.length c0, .slice A1 l1.length c1, .func (.func 83) #[] #[]] W fun e w' => e = .returned (.bool (eqTs l0 l1)) ∧ Below W.heap.size W w' := by
  have hmax : l0.length ≤ 9223372036854775807 := hr0.2.1
  obtain ⟨r, hv⟩ : ∃ r, eqTs l0 l1 = r := ⟨_, rfl⟩
  rw [hv]
  have HR0 := Lib.hid hr0
  have HR1 := Lib.hid hr1
  clear hr0 hr1
  by_cases hl : l0.length = l1.length
  · have c3b0 : ((l0.length : Int) == (l1.length : Int)) = true := beq_iff_eq.mpr (by omega)
    have c3b1 : ((l0.length : Int) != (l1.length : Int)) = false := bne_eq_false_iff_eq.mpr (by omega)
    have HV := Lib.hid hv
    have HL := Lib.hid hl
    have HM := Lib.hid hmax
    clear hv hl hmax
    go_enter Tryd.func82, Tryd.ntmps82
    go_wp2
    go_loopw [17] (fun v17 wr => ∃ (x : Nat) (wq : World), wq = wr ∧ x ≤ l0.length ∧ v17 = .int .i64 (x : Int) ∧ Hid (r = eqTs (l0.drop x) (l1.drop x)) ∧ Hid (Below W.heap.size W wq)) (fun v17 _ => l0.length - (intOf v17).toNat)
    case atStart => exact ⟨0, _, rfl, Nat.zero_le _, rfl, Lib.hid HV.out.symm, Lib.hid (Below.refl _ _)⟩
    case round =>
      obtain ⟨x, wr, hwr, hxl, rfl, HI, HB⟩ := hrel
      subst hwr
      clear HV
      by_cases hlt : x < l0.length
      · have hlt1 : x < l1.length := by have := HL.out; omega
        have hI := HI.out
        have hd := eqTs_drop l0 l1 (x : Int) (by omega) (by omega) (by omega)
        rw [Int.toNat_natCast] at hd
        rw [hd] at hI
        obtain ⟨ad, A4, c4, rfl, hx0, hx1, hx2, hx3, hx4, hxc, hxC⟩ := at_T34 (Kd.C_below HR0.out HB.out) (x : Int) (by omega) (by omega)
        obtain ⟨bd, B4, d4, rfl, hy0, hy1, hy2, hy3, hy4, hyc, hyC⟩ := at_T34 (Kd.C_below HR1.out HB.out) (x : Int) (by omega) (by omega)
        obtain ⟨⟨a0, a1, a2, a3, oa⟩, ha⟩ : ∃ e, e = rd_T34 l0 (x : Int) := ⟨_, rfl⟩
        obtain ⟨⟨b0, b1, b2, b3, ob⟩, hb⟩ : ∃ e, e = rd_T34 l1 (x : Int) := ⟨_, rfl⟩
        rw [← ha] at hx0 hx1 hx2 hx3 hx4 hxc hxC hI
        rw [← hb] at hy0 hy1 hy2 hy3 hy4 hyc hyC hI
        dsimp only at hx0 hx1 hx2 hx3 hx4 hxc hxC hy0 hy1 hy2 hy3 hy4 hyc hyC
        rw [Int.toNat_natCast] at hx0 hx1 hx2 hx3 hx4 hy0 hy1 hy2 hy3 hy4
        have hlk := fun w (hw : Below wr.heap.size wr w) => like_run A4 c4 B4 d4 a0 a1 a2 a3 oa b0 b1 b2 b3 ob w (Kd.C_below hxC hw) hxc (Kd.C_below hyC hw) hyc
        obtain ⟨o, ho⟩ : ∃ o, o = eqT ⟨a0, a1, a2, a3, oa⟩ ⟨b0, b1, b2, b3, ob⟩ := ⟨_, rfl⟩
        rw [← ho] at hlk hI
        have hst : wrap64 ((x : Int) + 1) = (x : Int) + 1 := w64 (by omega) (by have := HM.out; omega)
        have HLK := Lib.hid hlk
        have HI2 := Lib.hid hI
        have HLT := Lib.hid hlt
        have HST := Lib.hid hst
        clear hd hI HI ha hb ho hlk hxc hxC hyc hyC hst
        go_upto_region 6 with (first
          | ((with_reducible refine gate_dst (N := 8) rfl ?_); refine box_event ?hg (N := 8) ?hd (cs := #[.int .i64 0, .int .i64 0, .int .i64 0, .int .i64 0, .slice none 0 0]) (t := 34) ?hr ?_; (case hd => rfl); (case hg => rfl); (case hr => first | (go_simp; done) | (go_simp; rfl)); intro ga gah gaw hbox hb; have gaX := Lib.hid hbox; have gaB := Lib.hid hb; have gaH := Lib.hid gah; clear gah; have gaz0 : gaw.cell? ⟨ga, 0, none⟩ = some (.int .i64 0) := (blk_cell hbox 0).trans rfl; have gaz1 : gaw.cell? ⟨ga, 1, none⟩ = some (.int .i64 0) := (blk_cell hbox 1).trans rfl; have gaz2 : gaw.cell? ⟨ga, 2, none⟩ = some (.int .i64 0) := (blk_cell hbox 2).trans rfl; have gaz3 : gaw.cell? ⟨ga, 3, none⟩ = some (.int .i64 0) := (blk_cell hbox 3).trans rfl; have gaz4 : gaw.cell? ⟨ga, 4, none⟩ = some (.slice none 0 0) := (blk_cell hbox 4).trans rfl; have gay0 := blk_frozen hbox 0; have gay1 := blk_frozen hbox 1; have gay2 := blk_frozen hbox 2; have gay3 := blk_frozen hbox 3; have gay4 := blk_frozen hbox 4; clear hbox hb))
        obtain ⟨W4, hW4⟩ : ∃ W4, W4 = ((((gaw.setCell ⟨ga, 0, none⟩ (.int .i64 a0)).setCell ⟨ga, 1, none⟩ (.int .i64 a1)).setCell ⟨ga, 2, none⟩ (.int .i64 a2)).setCell ⟨ga, 3, none⟩ (.int .i64 a3)).setCell ⟨ga, 4, none⟩ (.slice A4 oa.length c4) := ⟨_, rfl⟩
        have hbx := like_box5 gaX.out gaB.out (by rw [gaH.out]; exact Nat.le_refl _) (.int .i64 a0) (.int .i64 a1) (.int .i64 a2) (.int .i64 a3) (.slice A4 oa.length c4)
        rw [← hW4] at hbx ⊢
        have HX4 := Lib.hid hbx.1
        have HB4 := Lib.hid hbx.2
        have y0 := pw_cell_below HB4.out hy0
        have y1 := pw_cell_below HB4.out hy1
        have y2 := pw_cell_below HB4.out hy2
        have y3 := pw_cell_below HB4.out hy3
        have y4 := pw_cell_below HB4.out hy4
        clear hW4 hbx gaX gaB gaH gaz0 gaz1 gaz2 gaz3 gaz4 gay0 gay1 gay2 gay3 gay4 hx0 hx1 hx2 hx3 hx4 hy0 hy1 hy2 hy3 hy4
        go_upto_region 7 with (first
          | ((with_reducible refine gate_dst (N := 9) rfl ?_); refine box_event ?hg (N := 9) ?hd (cs := #[.int .i64 0, .int .i64 0, .int .i64 0, .int .i64 0, .slice none 0 0]) (t := 34) ?hr ?_; (case hd => rfl); (case hg => rfl); (case hr => first | (go_simp; done) | (go_simp; rfl)); intro gb gbh gbw hbox hb; have gbX := Lib.hid hbox; have gbB := Lib.hid hb; have gbH := Lib.hid gbh; clear gbh; have gbz0 : gbw.cell? ⟨gb, 0, none⟩ = some (.int .i64 0) := (blk_cell hbox 0).trans rfl; have gbz1 : gbw.cell? ⟨gb, 1, none⟩ = some (.int .i64 0) := (blk_cell hbox 1).trans rfl; have gbz2 : gbw.cell? ⟨gb, 2, none⟩ = some (.int .i64 0) := (blk_cell hbox 2).trans rfl; have gbz3 : gbw.cell? ⟨gb, 3, none⟩ = some (.int .i64 0) := (blk_cell hbox 3).trans rfl; have gbz4 : gbw.cell? ⟨gb, 4, none⟩ = some (.slice none 0 0) := (blk_cell hbox 4).trans rfl; have gby0 := blk_frozen hbox 0; have gby1 := blk_frozen hbox 1; have gby2 := blk_frozen hbox 2; have gby3 := blk_frozen hbox 3; have gby4 := blk_frozen hbox 4; clear hbox hb))
        obtain ⟨W5, hW5⟩ : ∃ W5, W5 = ((((gbw.setCell ⟨gb, 0, none⟩ (.int .i64 b0)).setCell ⟨gb, 1, none⟩ (.int .i64 b1)).setCell ⟨gb, 2, none⟩ (.int .i64 b2)).setCell ⟨gb, 3, none⟩ (.int .i64 b3)).setCell ⟨gb, 4, none⟩ (.slice B4 ob.length d4) := ⟨_, rfl⟩
        have hbx := like_box5 gbX.out gbB.out (by rw [gbH.out]; exact Nat.le_refl _) (.int .i64 b0) (.int .i64 b1) (.int .i64 b2) (.int .i64 b3) (.slice B4 ob.length d4)
        rw [← hW5] at hbx ⊢
        have HX5 := Lib.hid hbx.1
        have HB5 := Lib.hid (HB4.out.trans (hbx.2.mono HB4.out.size))
        have HX45 := Lib.hid (blk_below HX4.out hbx.2)
        have u0 : W5.cell? ⟨ga, 0, none⟩ = some (.int .i64 a0) := (blk_cell HX45.out 0).trans rfl
        have u1 : W5.cell? ⟨ga, 1, none⟩ = some (.int .i64 a1) := (blk_cell HX45.out 1).trans rfl
        have u2 : W5.cell? ⟨ga, 2, none⟩ = some (.int .i64 a2) := (blk_cell HX45.out 2).trans rfl
        have u3 : W5.cell? ⟨ga, 3, none⟩ = some (.int .i64 a3) := (blk_cell HX45.out 3).trans rfl
        have u4 : W5.cell? ⟨ga, 4, none⟩ = some (.slice A4 oa.length c4) := (blk_cell HX45.out 4).trans rfl
        have t0 : W5.cell? ⟨gb, 0, none⟩ = some (.int .i64 b0) := (blk_cell HX5.out 0).trans rfl
        have t1 : W5.cell? ⟨gb, 1, none⟩ = some (.int .i64 b1) := (blk_cell HX5.out 1).trans rfl
        have t2 : W5.cell? ⟨gb, 2, none⟩ = some (.int .i64 b2) := (blk_cell HX5.out 2).trans rfl
        have t3 : W5.cell? ⟨gb, 3, none⟩ = some (.int .i64 b3) := (blk_cell HX5.out 3).trans rfl
        have t4 : W5.cell? ⟨gb, 4, none⟩ = some (.slice B4 ob.length d4) := (blk_cell HX5.out 4).trans rfl
        clear hW5 hbx gbX gbB gbH gbz0 gbz1 gbz2 gbz3 gbz4 gby0 gby1 gby2 gby3 gby4 y0 y1 y2 y3 y4
        cases o with
        | true =>
          go_wp2_with (go_at_call 83; refine (HLK.out _ HB5.out).mono ?_; rintro z w6 ⟨rfl, hb6⟩; have HB6 := Lib.hid (HB.out.trans ((HB5.out.trans (hb6.mono HB5.out.size)).mono HB.out.size)); clear hb6)
          go_roundw
          case rel => exact ⟨x + 1, _, rfl, by have := HLT.out; omega, by rw [HST.out]; go_num, Lib.hid (by have h1 := HI2.out; rw [Bool.true_and] at h1; exact h1), HB6⟩
          case measure => have h1 := HLT.out; have h2 := HST.out; simp only [like_int, h2]; clear h2; omega
        | false =>
          go_wp2_with (go_at_call 83; refine (HLK.out _ HB5.out).mono ?_; rintro z w6 ⟨rfl, hb6⟩; have HB6 := Lib.hid (HB.out.trans ((HB5.out.trans (hb6.mono HB5.out.size)).mono HB.out.size)); clear hb6)
          go_ret
          exact ⟨by rw [HI2.out]; rfl, HB6.out⟩
      · have e1 := HI.out
        obtain rfl : x = l0.length := by omega
        rw [List.drop_eq_nil_of_le (Nat.le_refl _), List.drop_eq_nil_of_le (by have := HL.out; omega)] at e1
        have e2 : r = true := e1
        clear HI e1
        subst e2
        go_wp2
        go_ret
        exact ⟨rfl, HB.out⟩
  · have c3b0 : ((l0.length : Int) == (l1.length : Int)) = false := beq_eq_false_iff_ne.mpr (by omega)
    have c3b1 : ((l0.length : Int) != (l1.length : Int)) = true := bne_iff_ne.mpr (by omega)
    rw [eqTs_len hl] at hv
    subst hv
    clear hl
    go_enter Tryd.func82, Tryd.ntmps82
    go_wp2
    go_ret
    exact ⟨rfl, Below.refl _ _⟩
def table_Like.f (l0 l1 : List S34) : Option Bool := some (eqTs l0 l1)
theorem table_Like.calls (A0 : Option Addr) (c0 : Nat) (l0 : List S34) (A1 : Option Addr) (c1 : Nat) (l1 : List S34) (r : Bool) (W : World) (hr0 : Kd.C k34 W A0 l0.length l0) (hc0 : l0.length ≤ c0) (hr1 : Kd.C k34 W A1 l1.length l1) (hc1 : l1.length ≤ c1) (h : table_Like.f l0 l1 = some r) :
    Calls Tryd.prog 29 #[.slice A0 l0.length c0, .slice A1 l1.length c1] W fun e w' => e = .returned (.bool r) ∧ Below W.heap.size W w' := by
  have hv : eqTs l0 l1 = r := Option.some.inj h
  have he := equal_like A0 c0 l0 A1 c1 l1 W hr0 hr1
  rw [hv] at he
  have HE := Lib.hid he
  clear hr0 hr1 hc0 hc1 h hv he
  go_enter Tryd.func29, Tryd.ntmps29
  go_wp2_with (go_at_call 82; refine HE.out.mono ?_; rintro z w6 ⟨rfl, hb6⟩; have HB6 := Lib.hid hb6; clear hb6)
  go_ret
  exact ⟨rfl, HB6.out⟩
end Go.Proofs.YtkjkceeopkfniaaDoor.P

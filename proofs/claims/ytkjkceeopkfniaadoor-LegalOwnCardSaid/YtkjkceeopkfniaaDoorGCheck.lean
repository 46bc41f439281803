/- proper.Check, given: the place of the first event that may not be there; it asks that the table of kinds lies in the world. -/
import Derived.Test.YtkjkceeopkfniaaDoorGMoves
import Derived.Test.YtkjkceeopkfniaaDoorGRight
namespace Go.Proofs.YtkjkceeopkfniaaDoor.P
set_option linter.unusedVariables false
set_option linter.unusedSimpArgs false
open Go Go.RowKit Go.Proofs.YtkjkceeopkfniaaDoorW.PrintWords Go.Proofs.YtkjkceeopkfniaaDoorW.PrintLast Go.Proofs.YtkjkceeopkfniaaDoorW.PrintMore Go.Proofs.YtkjkceeopkfniaaDoor.U

/-- How many events may be there, from transactions' states on. -/
def runI (g : Int → Option Int) : List S36 → Nat
  | [] => 0
  | e :: t => match nextS ((g e.f1).getD 0) e.f0 with
    | some s => runI (setF g e.f1 s) t + 1
    | none => 0
theorem runI_le (l : List S36) : ∀ g, runI g l ≤ l.length := by
  induction l with
  | nil => intro g; exact Nat.le_refl _
  | cons e t ih =>
    intro g
    unfold runI
    split
    · have := ih (setF g e.f1 (by assumption)); simp; exact ih _
    · exact Nat.zero_le _
theorem drop_rd (l : List S36) (i : Nat) (h : i < l.length) : l.drop i = rd_T36 l (i : Int) :: l.drop (i + 1) := by
  rw [List.drop_eq_getElem_cons h]
  have : rd_T36 l (i : Int) = l[i] := by unfold rd_T36; rw [Int.toNat_natCast, List.getD_eq_getElem?_getD, List.getElem?_eq_getElem h]; rfl
  rw [this]
set_option maxHeartbeats 2000000 in
set_option maxRecDepth 100000 in
theorem run_run (A : Option Addr) (c : Nat) (l : List S36) (W : World) (hr : Kd.C k36 W A l.length l) :
    Calls Tryd.prog 108 #[.slice A l.length c] W fun e w' => (∃ m, e = .returned (.tuple #[.int .i64 (runI noF l : Int), m])) ∧ Below W.heap.size W w' := by
  have HE := Lib.hid hr
  have hmax : l.length ≤ 9223372036854775807 := hr.2.1
  have hmm := @run_makeMap Tryd.prog
  obtain ⟨R, hR⟩ : ∃ R, R = runI noF l := ⟨_, rfl⟩
  rw [← hR]
  have HR := Lib.hid hR
  clear hr hR
  go_enter Tryd.func108, Tryd.ntmps108
  go_wp2_with (first
    | (go_at_call 136; refine (moves_run _).mono ?_; rintro x w1 ⟨n, hn, rfl, hm, hb⟩; have HN := Lib.hid hn; have HM := Lib.hid hm; have HB1 := Lib.hid hb; clear hn hm hb))
  have hb2 : Below w1.heap.size w1 (w1.alloc (.map #[] 0)) := (Below.refl _ _).alloc (Nat.le_refl _) _
  have H0 : Hid (MapIs VI (w1.alloc (.map #[] 0)) w1.heap.size noF) := Lib.hid (MapIs.new VI w1)
  have HM0 : Hid (Moves (w1.alloc (.map #[] 0)) n) := Lib.hid (HM.out.below hb2)
  have HB0 : Hid (Below W.heap.size W (w1.alloc (.map #[] 0))) := Lib.hid (HB1.out.trans (hb2.mono HB1.out.size))
  have HBN : Hid (n + 7 < w1.heap.size ∧ W.heap.size ≤ w1.heap.size) := Lib.hid ⟨HM.out.lt, HB1.out.size⟩
  generalize w1.alloc (.map #[] 0) = w2 at *
  generalize hbN : w1.heap.size = bN at *
  clear hb2 hbN HM HB1 hmm
  go_loopw [14] (fun v14 wr => ∃ (i : Nat) (g : Int → Option Int), i ≤ l.length ∧ v14 = .int .i64 (i : Int) ∧ Hid (MapIs VI wr bN g) ∧ Hid (Moves wr n) ∧ Hid (R = i + runI g (l.drop i)) ∧ Hid (Below W.heap.size W wr)) (fun v14 _ => l.length - (intOf v14).toNat)
  case atStart => exact ⟨0, noF, Nat.zero_le _, rfl, H0, HM0, Lib.hid (by rw [HR.out, List.drop_zero]; simp), HB0⟩
  case round =>
    obtain ⟨i, g, hi, rfl, HG, HMW, HI, HBW⟩ := hrel
    clear H0 HM0 HB0
    by_cases hlt : i < l.length
    · obtain ⟨adE, rfl, hx0, hx1, hx2, hx3⟩ := at_T36 (Kd.C_below HE.out HBW.out) (i : Int) (by omega) (by omega)
      have hd := drop_rd l i hlt
      obtain ⟨ev, hev⟩ : ∃ ev, ev = rd_T36 l (i : Int) := ⟨_, rfl⟩
      rw [← hev] at hx0 hx1 hx2 hx3 hd
      rw [Int.toNat_natCast] at hx0 hx1 hx2 hx3
      have hI2 := HI.out
      rw [hd] at hI2
      unfold runI at hI2
      obtain ⟨f0, f1, f2, f3⟩ := ev
      dsimp only at hx0 hx1 hx2 hx3 hI2
      have HI2 := Lib.hid hI2
      clear hI2 hd hev HI
      go_upto_region 6 with (first
        | ((with_reducible refine gate_dst (N := 7) rfl ?_); refine box_event ?hg (N := 7) ?hd (cs := #[.int .i64 0, .int .i64 0, .int .i64 0, .int .i64 0]) (t := 36) ?hr ?_; (case hd => rfl); (case hg => rfl); (case hr => first | (go_simp; done) | (go_simp; rfl)); intro g7 hg7 w4 hbox hb; have HX7 := Lib.hid hbox; have HB4 := Lib.hid hb; have HG7 := Lib.hid hg7; have z0 : w4.cell? ⟨g7, 0, none⟩ = some (.int .i64 0) := (blk_cell hbox 0).trans rfl; have z1 : w4.cell? ⟨g7, 1, none⟩ = some (.int .i64 0) := (blk_cell hbox 1).trans rfl; have z2 : w4.cell? ⟨g7, 2, none⟩ = some (.int .i64 0) := (blk_cell hbox 2).trans rfl; have z3 : w4.cell? ⟨g7, 3, none⟩ = some (.int .i64 0) := (blk_cell hbox 3).trans rfl; have y0 := blk_frozen hbox 0; have y1 := blk_frozen hbox 1; have y2 := blk_frozen hbox 2; have y3 := blk_frozen hbox 3; clear hbox hb hg7))
      obtain ⟨W5, hW5⟩ : ∃ W5, W5 = (((w4.setCell ⟨g7, 0, none⟩ (.int .i64 f0)).setCell ⟨g7, 1, none⟩ (.int .i64 f1)).setCell ⟨g7, 2, none⟩ (.int .i64 f2)).setCell ⟨g7, 3, none⟩ (.int .i64 f3) := ⟨_, rfl⟩
      have HX5 : Hid (W5.heap[g7]? = some (.cells #[.int .i64 f0, .int .i64 f1, .int .i64 f2, .int .i64 f3] 36 (0, 0))) := Lib.hid (by
        rw [hW5]
        have := blk_set (blk_set (blk_set (blk_set HX7.out 0 (.int .i64 f0)) 1 (.int .i64 f1)) 2 (.int .i64 f2)) 3 (.int .i64 f3)
        simpa using this)
      have HB5 : Hid (Below wr.heap.size wr W5) := Lib.hid (by
        have hle : wr.heap.size ≤ g7 := by rw [HG7.out]; exact Nat.le_refl _
        rw [hW5]
        exact (((HB4.out.setCell (p := ⟨g7, 0, none⟩) hle _).setCell (p := ⟨g7, 1, none⟩) hle _).setCell (p := ⟨g7, 2, none⟩) hle _).setCell (p := ⟨g7, 3, none⟩) hle _)
      rw [← hW5]
      have HG5 : Hid (MapIs VI W5 bN g) := Lib.hid (HG.out.below HB5.out)
      have HM5 : Hid (Moves W5 n) := Lib.hid (HMW.out.below HB5.out)
      have HBW5 : Hid (Below W.heap.size W W5) := Lib.hid (HBW.out.trans (HB5.out.mono HBW.out.size))
      have HNE : Hid (g7 ≠ bN) := Lib.hid (by have h1 := HG7.out; have h2 := HG.out.lt; omega)
      have u0 : W5.cell? ⟨g7, 0, none⟩ = some (.int .i64 f0) := (blk_cell HX5.out 0).trans rfl
      have u1 : W5.cell? ⟨g7, 1, none⟩ = some (.int .i64 f1) := (blk_cell HX5.out 1).trans rfl
      have l1 := HG5.out.look (P := Tryd.prog) Tryd.underlying135 Tryd.underlying3 Tryd.zeroValue158 f1 false
      rw [if_neg Bool.false_ne_true] at l1
      have e1 : ((g f1).map VI).getD (.int .i64 0) = .int .i64 ((g f1).getD 0) := by cases g f1 <;> rfl
      rw [e1] at l1
      obtain ⟨s, hs⟩ : ∃ s, s = (g f1).getD 0 := ⟨_, rfl⟩
      have hI3 := HI2.out
      rw [← hs] at l1 hI3
      obtain ⟨mv, l2, l3⟩ := HM5.out.look s f0
      obtain ⟨W6, l4, hp, hm6⟩ := HG5.out.put (P := Tryd.prog) Tryd.underlying135 Tryd.underlying3 f1 ((nextS s f0).getD 0)
      have HP6 := Lib.hid hp
      have HG6 := Lib.hid hm6
      clear hp hm6
      cases hn : nextS s f0 with
      | none =>
        rw [hn] at l3 hI3
        have HI3 := Lib.hid hI3
        simp only [Option.getD_none, Option.isSome_none] at l3
        clear hI3 hW5 HX7 HB4 z0 z1 z2 z3 y0 y1 y2 y3 hx0 hx1 hx2 hx3 HG HMW HX5 hs e1 l4 HG6 HP6 hn HI2
        go_wp2
        go_ret2
        exact ⟨⟨_, by have := HI3.out; (try dsimp only at this); rw [this]; rfl⟩, HBW5.out⟩
      | some s2 =>
        rw [hn] at l3 hI3 l4 HG6
        have HI3 := Lib.hid hI3
        simp only [Option.getD_some, Option.isSome_some] at l3 l4
        have l4 : (Instr.mapUpdate TM (.map (some bN)) (.int .i64 f1) (.int .i64 s2)).run Tryd.prog W5 = .ok () W6 := l4
        have u2 : W6.cell? ⟨g7, 0, none⟩ = some (.int .i64 f0) := by
          have := blk_cell ((HP6.out.other g7 HNE.out).trans HX5.out) 0
          exact this.trans rfl
        clear hI3 hW5 HX7 HB4 z0 z1 z2 z3 y0 y1 y2 y3 hx0 hx1 hx2 hx3 HG HMW HX5 hs e1 hn HI2
        go_wp2
        go_roundw
        case rel =>
          refine ⟨i + 1, setF g f1 s2, by omega, by go_num, HG6, Lib.hid (HM5.out.kept fun j h1 h2 => HP6.out.other j (by have := HBN.out; omega)), Lib.hid ?_, Lib.hid (HP6.out.below HBW5.out HBN.out.2)⟩
          have := HI3.out
          (try dsimp only at this)
          rw [this]
          omega
        case measure => simp [intOf]; omega
    · obtain rfl : i = l.length := by omega
      have e1 := HI.out
      rw [List.drop_length] at e1
      have e2 := Lib.hid e1
      clear HI e1
      go_wp2
      go_ret2
      exact ⟨⟨_, by have := e2.out; unfold runI at this; rw [this]; rfl⟩, HBW.out⟩
def proper_Check.f (l : List S36) : Option (Int × Int) := some (if rightsB l = true then ((runI noF l : Int), if (runI noF l : Int) < l.length then 6 else 0) else (0, 1))
set_option maxHeartbeats 1000000 in
theorem proper_Check.calls (A0 : Option Addr) (c0 : Nat) (l0 : List S36) (r1 : Int) (r2 : Int) (W : World) (hr0 : Kd.C k36 W A0 l0.length l0) (hc0 : l0.length ≤ c0) (h : proper_Check.f l0 = some (r1, r2)) (hT : KTab W) :
    Calls Tryd.prog 56 #[.slice A0 l0.length c0] W fun e w' => e = .returned (.tuple #[.int .i64 r1, .int .i64 r2]) ∧ Below W.heap.size W w' := by
  have hv := Option.some.inj h
  have hrt := text_Right.calls A0 c0 l0 (rightsB l0) W hr0 hc0 rfl hT
  have hru := fun w (hb : Below W.heap.size W w) => run_run A0 c0 l0 w (Kd.C_below hr0 hb)
  obtain ⟨R, hR⟩ : ∃ R : Int, R = (runI noF l0 : Int) := ⟨_, rfl⟩
  rw [← hR] at hv hru
  have HRU := Lib.hid hru
  clear h hr0 hT hR hru
  cases hrb : rightsB l0 with
  | false =>
    rw [hrb] at hv hrt
    rw [if_neg Bool.false_ne_true] at hv
    simp only [Prod.mk.injEq] at hv
    obtain ⟨rfl, rfl⟩ := hv
    have HRT := Lib.hid hrt
    clear hrt hrb
    go_enter Tryd.func56, Tryd.ntmps56
    go_wp2_with (first
      | (go_at_call 107; refine HRT.out.mono ?_; rintro x w2 ⟨rfl, hb2⟩; have HB2 := Lib.hid hb2; clear hb2))
    go_ret2
    exact ⟨rfl, HB2.out⟩
  | true =>
    rw [hrb] at hv hrt
    rw [if_pos rfl] at hv
    have HRT := Lib.hid hrt
    clear hrt hrb
    by_cases hlt : R < (l0.length : Int)
    · rw [if_pos hlt] at hv
      simp only [Prod.mk.injEq] at hv
      obtain ⟨rfl, rfl⟩ := hv
      have hd : decide (R < (l0.length : Int)) = true := decide_eq_true hlt
      go_enter Tryd.func56, Tryd.ntmps56
      go_wp2_with (first
        | (go_at_call 107; refine HRT.out.mono ?_; rintro x w2 ⟨rfl, hb2⟩; have HB2 := Lib.hid hb2; clear hb2)
        | (go_at_call 108; refine (HRU.out _ HB2.out).mono ?_; rintro x w3 ⟨⟨m, rfl⟩, hb3⟩; have HB3 := Lib.hid (HB2.out.trans (hb3.mono HB2.out.size)); clear hb3))
      go_ret2
      exact ⟨rfl, HB3.out⟩
    · rw [if_neg hlt] at hv
      simp only [Prod.mk.injEq] at hv
      obtain ⟨rfl, rfl⟩ := hv
      have hd : decide (R < (l0.length : Int)) = false := decide_eq_false hlt
      go_enter Tryd.func56, Tryd.ntmps56
      go_wp2_with (first
        | (go_at_call 107; refine HRT.out.mono ?_; rintro x w2 ⟨rfl, hb2⟩; have HB2 := Lib.hid hb2; clear hb2)
        | (go_at_call 108; refine (HRU.out _ HB2.out).mono ?_; rintro x w3 ⟨⟨m, rfl⟩, hb3⟩; have HB3 := Lib.hid (HB2.out.trans (hb3.mono HB2.out.size)); clear hb3))
      go_ret2
      exact ⟨rfl, HB3.out⟩
end Go.Proofs.YtkjkceeopkfniaaDoor.P

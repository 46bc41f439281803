/- legal.Own, given: which read of a transaction is the first that is not of what it may, of a memory. -/
import Derived.Test.YtkjkceeopkfniaaDoorGMem
import Derived.Test.YtkjkceeopkfniaaDoorGRight
import Derived.RangeFuncBox
import Derived.WalkSpells
import Derived.Deep.QuietTactic
import Derived.BigQuiet
import Derived.StillTailTactics
import Derived.Laws.Cover3
namespace Go.Proofs.YtkjkceeopkfniaaDoor.P
set_option linter.unusedVariables false
set_option linter.unusedSimpArgs false
open Go Go.RowKit Go.Proofs.YtkjkceeopkfniaaDoorW.PrintWords Go.Proofs.YtkjkceeopkfniaaDoorW.PrintLast Go.Proofs.YtkjkceeopkfniaaDoorW.PrintMore Go.Proofs.YtkjkceeopkfniaaDoor.U

/-- An operation on what is no variable. -/
def oddO (o : S52) : Bool := decide (o.f1 < 0) || decide (7 < o.f1)
abbrev fOdd : Value := .func (.func 86) #[] #[]
theorem odd_any (o : S52) (W : World) : Calls Tryd.prog 86 #[.agg #[.bool o.f0, .int .i64 o.f1, .int .i64 o.f2]] W fun x w' => x = .returned (.bool (oddO o)) ∧ Below W.heap.size W w' := by
  obtain ⟨f0, f1, f2⟩ := o
  unfold oddO
  dsimp only
  by_cases h0 : f1 < 0
  · have d0 : decide (f1 < 0) = true := decide_eq_true h0
    rw [d0, Bool.true_or]
    clear h0
    go_enter Tryd.func86, Tryd.ntmps86
    go_wp2_with (first
      | ((with_reducible refine gate_dst (N := 1) rfl ?_); refine box_event ?hg (N := 1) ?hd (cs := #[.bool f0, .int .i64 f1, .int .i64 f2]) (t := 52) ?hr ?_; (case hd => rfl); (case hg => rfl); (case hr => first | (go_simp; done) | (go_simp; rfl)); intro g hg w1 hbox hb; have HB1 := Lib.hid hb; have z1 : w1.cell? ⟨g, 1, none⟩ = some (.int .i64 f1) := (blk_cell hbox 1).trans rfl; clear hbox hb hg))
    go_ret
    exact ⟨rfl, HB1.out⟩
  · have d0 : decide (f1 < 0) = false := decide_eq_false h0
    rw [d0, Bool.false_or]
    obtain ⟨q, hq⟩ : ∃ q, q = decide (7 < f1) := ⟨_, rfl⟩
    have hq1 : decide (f1 > 7) = q := by rw [hq]
    have hq2 : decide (7 < f1) = q := hq.symm
    rw [← hq]
    clear h0 hq
    go_enter Tryd.func86, Tryd.ntmps86
    go_wp2_with (first
      | ((with_reducible refine gate_dst (N := 1) rfl ?_); refine box_event ?hg (N := 1) ?hd (cs := #[.bool f0, .int .i64 f1, .int .i64 f2]) (t := 52) ?hr ?_; (case hd => rfl); (case hg => rfl); (case hr => first | (go_simp; done) | (go_simp; rfl)); intro g hg w1 hbox hb; have HB1 := Lib.hid hb; have z1 : w1.cell? ⟨g, 1, none⟩ = some (.int .i64 f1) := (blk_cell hbox 1).trans rfl; clear hbox hb hg))
    go_ret
    exact ⟨by first | rfl | (rw [← hq2]; rfl), HB1.out⟩
def idxP (g : S52 → Bool) : List S52 → Nat → Int
  | [], _ => -1
  | x :: t, i => if g x then i else idxP g t (i + 1)
theorem idxP_any (g : S52 → Bool) (l : List S52) : ∀ i, decide (idxP g l i ≥ 0) = l.any g := by
  induction l with
  | nil => intro i; rfl
  | cons x t ih =>
    intro i
    unfold idxP
    cases hg : g x with
    | true => simp [hg]
    | false => simp only [Bool.false_eq_true, if_false]; rw [ih]; simp [hg]
theorem idxP_drop (g : S52 → Bool) (l : List S52) (k : Nat) (h : k < l.length) : idxP g (l.drop k) k = if g (rd_T52 l (k : Int)) then (k : Int) else idxP g (l.drop (k + 1)) (k + 1) := by
  rw [List.drop_eq_getElem_cons h, rdOp l k h]; rfl
theorem index_odd (A : Option Addr) (c : Nat) (l : List S52) (W : World) (hr : Kd.C k52 W A l.length l) :
    Calls Tryd.prog 94 #[.slice A l.length c, fOdd] W fun e w' => e = .returned (.int .i64 (idxP oddO l 0)) ∧ Below W.heap.size W w' := by
  have HE := Lib.hid hr
  have hmax : l.length ≤ 9223372036854775807 := hr.2.1
  obtain ⟨g, hg⟩ : ∃ g : S52 → Bool, g = oddO := ⟨_, rfl⟩
  have hc : ∀ (o : S52) w, Calls Tryd.prog 86 #[.agg #[.bool o.f0, .int .i64 o.f1, .int .i64 o.f2]] w fun x w' => x = .returned (.bool (g o)) ∧ Below w.heap.size w w' := fun o w => by rw [hg]; exact odd_any o w
  rw [← hg]
  have HC := Lib.hid hc
  clear hr hg hc
  go_enter Tryd.func94, Tryd.ntmps94
  go_wp2
  go_loopw [8] (fun v8 wr => ∃ k : Nat, k ≤ l.length ∧ v8 = .int .i64 (k : Int) ∧ Hid (idxP g l 0 = idxP g (l.drop k) k) ∧ Hid (Below W.heap.size W wr)) (fun v8 _ => l.length - (intOf v8).toNat)
  case atStart => exact ⟨0, Nat.zero_le _, rfl, Lib.hid rfl, Lib.hid (Below.refl _ _)⟩
  case round =>
    obtain ⟨k, hk, rfl, hI, HB⟩ := hrel
    by_cases hlt : k < l.length
    · obtain ⟨adE, rfl, hx0, hx1, hx2⟩ := at_T52 (Kd.C_below HE.out HB.out) (k : Int) (by omega) (by omega)
      have hd := Lib.hid (idxP_drop g l k hlt)
      obtain ⟨ev, hev⟩ : ∃ ev, ev = rd_T52 l (k : Int) := ⟨_, rfl⟩
      rw [← hev] at hx0 hx1 hx2 hd
      rw [Int.toNat_natCast] at hx0 hx1 hx2
      clear hev
      have ho := HC.out ev wr
      cases hgx : g ev with
      | true =>
        rw [hgx] at ho
        have e1 := hd.out
        rw [hgx, if_pos rfl] at e1
        have e2 := Lib.hid (hI.out.trans e1)
        have HO := Lib.hid ho
        clear ho hgx hd hI e1
        go_wp2_with (go_at_call 86; refine HO.out.mono ?_; rintro e w' ⟨rfl, hb2⟩; have HB2 := Lib.hid (HB.out.trans (hb2.mono HB.out.size)); clear hb2)
        go_ret
        exact ⟨by rw [e2.out]; rfl, HB2.out⟩
      | false =>
        rw [hgx] at ho
        have e1 := hd.out
        rw [hgx, if_neg (by simp)] at e1
        have e2 := Lib.hid (hI.out.trans e1)
        have HO := Lib.hid ho
        clear ho hgx hd hI e1
        go_wp2_with (go_at_call 86; refine HO.out.mono ?_; rintro e w' ⟨rfl, hb2⟩; have HB2 := Lib.hid (HB.out.trans (hb2.mono HB.out.size)); clear hb2)
        go_roundw
        case rel => exact ⟨k + 1, by omega, by go_num, e2, HB2⟩
        case measure => simp [intOf]; omega
    · obtain rfl : k = l.length := by omega
      have e1 := hI.out
      rw [List.drop_length] at e1
      have e2 := Lib.hid e1
      clear hI e1
      go_wp2
      go_ret
      exact ⟨by rw [e2.out]; rfl, HB.out⟩
theorem contains_odd (A : Option Addr) (c : Nat) (l : List S52) (W : World) (hr : Kd.C k52 W A l.length l) :
    Calls Tryd.prog 45 #[.slice A l.length c, fOdd] W fun e w' => e = .returned (.bool (l.any oddO)) ∧ Below W.heap.size W w' := by
  have hi := index_odd A c l W hr
  have ha := Lib.hid (idxP_any oddO l 0)
  obtain ⟨r, hr⟩ : ∃ r, r = idxP oddO l 0 := ⟨_, rfl⟩
  rw [← hr] at ha hi
  have HI := Lib.hid hi
  clear hr hi
  go_enter Tryd.func45, Tryd.ntmps45
  go_wp2_with (go_at_call 94; refine HI.out.mono ?_; rintro e w' ⟨rfl, hb2⟩; have HB2 := Lib.hid hb2; clear hb2)
  go_ret
  exact ⟨by rw [← ha.out]; rfl, HB2.out⟩
def ownV (ops : List S52) (m : List Int) : Int × Int := if m.length ≠ 8 then (0, 1) else if ops.any oddO = true then (0, 7) else ((ownM ops m : Nat), 0)
theorem odd_none {ops : List S52} (h : ops.any oddO = false) : ∀ o ∈ ops, 0 ≤ o.f1 ∧ o.f1 < 8 := by
  intro o ho
  have := List.any_eq_false.1 h o ho
  unfold oddO at this
  simp only [Bool.or_eq_true, decide_eq_true_eq, not_or] at this
  omega
set_option maxHeartbeats 4000000 in
set_option maxRecDepth 100000 in
theorem legal_own (A4 : Option Addr) (c4 : Nat) (f0 f1 f2 f3 : Int) (ops : List S52) (A1 : Option Addr) (c1 : Nat) (m : List Int) (W : World) (hr : Kd.C k52 W A4 ops.length ops) (hrc : ops.length ≤ c4) (hm : Kd.C (Kd.int .i64) W A1 m.length m) :
    Calls Tryd.prog 34 #[.agg #[.int .i64 f0, .int .i64 f1, .int .i64 f2, .int .i64 f3, .slice A4 ops.length c4], .slice A1 m.length c1] W fun e w' => e = .returned (.tuple #[.int .i64 (ownV ops m).1, .int .i64 (ownV ops m).2]) ∧ Below W.heap.size W w' := by
  have HR := Lib.hid hr
  have HM := Lib.hid hm
  obtain ⟨r, hrr⟩ : ∃ r, r = ownV ops m := ⟨_, rfl⟩
  rw [← hrr]
  unfold ownV at hrr
  clear hr hm hrc
  by_cases h8 : m.length = 8
  · rw [if_neg (by simpa using h8)] at hrr
    have n1 : ((m.length : Int) != 8) = false := bne_eq_false_iff_eq.2 (by omega)
    have n2 : ((m.length : Int) == 8) = true := beq_iff_eq.2 (by omega)
    have hco := fun w (hb : Below W.heap.size W w) => contains_odd A4 c4 ops w (Kd.C_below HR.out hb)
    obtain ⟨o, ho⟩ : ∃ o, o = ops.any oddO := ⟨_, rfl⟩
    rw [← ho] at hrr hco
    have HCO := Lib.hid hco
    clear hco
    cases o with
    | true =>
      rw [if_pos rfl] at hrr
      subst hrr
      clear ho h8
      go_enter Tryd.func34, Tryd.ntmps34
      go_wp2_with (first
        | ((with_reducible refine gate_dst (N := 2) rfl ?_); refine box_event ?hg (N := 2) ?hd (cs := #[.int .i64 f0, .int .i64 f1, .int .i64 f2, .int .i64 f3, .slice A4 ops.length c4]) (t := 34) ?hr ?_; (case hd => rfl); (case hg => rfl); (case hr => first | (go_simp; done) | (go_simp; rfl)); intro g hg w2 hbox hb; have HX2 := Lib.hid hbox; have HB2 := Lib.hid hb; have z4 : w2.cell? ⟨g, 4, none⟩ = some (.slice A4 ops.length c4) := (blk_cell hbox 4).trans rfl; clear hbox hb hg)
        | (go_at_call 45; refine (HCO.out _ HB2.out).mono ?_; rintro x w3 ⟨rfl, hb3⟩; have HB3 := Lib.hid (HB2.out.trans (hb3.mono HB2.out.size)); clear hb3))
      go_ret2
      exact ⟨rfl, HB3.out⟩
    | false =>
      rw [if_neg Bool.false_ne_true] at hrr
      have hvr := odd_none ho.symm
      obtain ⟨m0, m1, m2, m3, m4, m5, m6, m7, hms⟩ := len8 h8
      subst hms
      subst hrr
      have HVR := Lib.hid hvr
      clear ho hvr h8
      obtain ⟨am, rfl, _⟩ := Kd.at_int HM.out 0 (by omega) (by simp)
      have hc := fun (w : World) (hb : Below W.heap.size W w) => Kd.C_below HM.out hb
      have HC := Lib.hid hc
      clear hc
      go_enter Tryd.func34, Tryd.ntmps34
      go_upto_region 6 with (first
        | ((with_reducible refine gate_dst (N := 2) rfl ?_); refine box_event ?hg (N := 2) ?hd (cs := #[.int .i64 f0, .int .i64 f1, .int .i64 f2, .int .i64 f3, .slice A4 ops.length c4]) (t := 34) ?hr ?_; (case hd => rfl); (case hg => rfl); (case hr => first | (go_simp; done) | (go_simp; rfl)); intro g hg w2 hbox hb; have HX2 := Lib.hid hbox; have HB2 := Lib.hid hb; have z4 : w2.cell? ⟨g, 4, none⟩ = some (.slice A4 ops.length c4) := (blk_cell hbox 4).trans rfl; clear hbox hb hg)
        | (go_at_call 45; refine (HCO.out _ HB2.out).mono ?_; rintro x w3 ⟨rfl, hb3⟩; have HB3 := Lib.hid (HB2.out.trans (hb3.mono HB2.out.size)); have z5 := pw_cell_below hb3 z4; clear hb3))
      obtain ⟨am0, e0, y0⟩ := Kd.at_int (HC.out _ HB3.out) 0 (by omega) (by simp)
      cases e0
      rw [show rd [m0, m1, m2, m3, m4, m5, m6, m7] (0 : Int) = m0 from rfl, show ((0 : Int)).toNat = 0 from rfl] at y0
      obtain ⟨am1, e1, y1⟩ := Kd.at_int (HC.out _ HB3.out) 1 (by omega) (by simp)
      cases e1
      rw [show rd [m0, m1, m2, m3, m4, m5, m6, m7] (1 : Int) = m1 from rfl, show ((1 : Int)).toNat = 1 from rfl] at y1
      obtain ⟨am2, e2, y2⟩ := Kd.at_int (HC.out _ HB3.out) 2 (by omega) (by simp)
      cases e2
      rw [show rd [m0, m1, m2, m3, m4, m5, m6, m7] (2 : Int) = m2 from rfl, show ((2 : Int)).toNat = 2 from rfl] at y2
      obtain ⟨am3, e3, y3⟩ := Kd.at_int (HC.out _ HB3.out) 3 (by omega) (by simp)
      cases e3
      rw [show rd [m0, m1, m2, m3, m4, m5, m6, m7] (3 : Int) = m3 from rfl, show ((3 : Int)).toNat = 3 from rfl] at y3
      obtain ⟨am4, e4, y4⟩ := Kd.at_int (HC.out _ HB3.out) 4 (by omega) (by simp)
      cases e4
      rw [show rd [m0, m1, m2, m3, m4, m5, m6, m7] (4 : Int) = m4 from rfl, show ((4 : Int)).toNat = 4 from rfl] at y4
      obtain ⟨am5, e5, y5⟩ := Kd.at_int (HC.out _ HB3.out) 5 (by omega) (by simp)
      cases e5
      rw [show rd [m0, m1, m2, m3, m4, m5, m6, m7] (5 : Int) = m5 from rfl, show ((5 : Int)).toNat = 5 from rfl] at y5
      obtain ⟨am6, e6, y6⟩ := Kd.at_int (HC.out _ HB3.out) 6 (by omega) (by simp)
      cases e6
      rw [show rd [m0, m1, m2, m3, m4, m5, m6, m7] (6 : Int) = m6 from rfl, show ((6 : Int)).toNat = 6 from rfl] at y6
      obtain ⟨am7, e7, y7⟩ := Kd.at_int (HC.out _ HB3.out) 7 (by omega) (by simp)
      cases e7
      rw [show rd [m0, m1, m2, m3, m4, m5, m6, m7] (7 : Int) = m7 from rfl, show ((7 : Int)).toNat = 7 from rfl] at y7
      rw [show am.add 0 = am from rfl] at y0
      rw [show am.add 1 = ⟨am.block, am.off + 1, none⟩ from rfl] at y1
      rw [show am.add 2 = ⟨am.block, am.off + 2, none⟩ from rfl] at y2
      rw [show am.add 3 = ⟨am.block, am.off + 3, none⟩ from rfl] at y3
      rw [show am.add 4 = ⟨am.block, am.off + 4, none⟩ from rfl] at y4
      rw [show am.add 5 = ⟨am.block, am.off + 5, none⟩ from rfl] at y5
      rw [show am.add 6 = ⟨am.block, am.off + 6, none⟩ from rfl] at y6
      rw [show am.add 7 = ⟨am.block, am.off + 7, none⟩ from rfl] at y7
      have hat : ∀ w, (Instr.arrayAt 119 (.slice (some am) 8 c1)).run Tryd.prog w = .ok (.pointer (some am)) w := fun w => run_arrayAt w 119 _ 8 _ 8 c1 Tryd.underlying119 (Nat.le_refl _)
      go_still_tail 5, (by kernel_rfl)
      change wpList _ _ _ _ _ w3.drew
      have HBd : Hid (Below W.heap.size W w3.drew) := Lib.hid (below_drew HB3.out)
      obtain ⟨wd, hwd⟩ : ∃ wd, wd = w3.drew := ⟨_, rfl⟩
      rw [← hwd] at HBd ⊢
      have hown := own_run A4 c4 ops [m0, m1, m2, m3, m4, m5, m6, m7] wd (Kd.C_below HR.out HBd.out) rfl HVR.out
      rw [show arrV [m0, m1, m2, m3, m4, m5, m6, m7] = #[.int .i64 m0, .int .i64 m1, .int .i64 m2, .int .i64 m3, .int .i64 m4, .int .i64 m5, .int .i64 m6, .int .i64 m7] from rfl] at hown
      have HOWN := Lib.hid hown
      clear hwd hown
      go_wp2_with (first
        | (go_at_call 87; refine HOWN.out.mono ?_; rintro x w4 ⟨rfl, hb4⟩; have HB4 := Lib.hid (HBd.out.trans (hb4.mono HBd.out.size)); clear hb4))
      go_ret2
      exact ⟨rfl, HB4.out⟩
  · rw [if_pos (by simpa using h8)] at hrr
    subst hrr
    have n1 : ((m.length : Int) != 8) = true := bne_iff_ne.2 (by omega)
    have n2 : ((m.length : Int) == 8) = false := beq_eq_false_iff_ne.2 (by omega)
    clear h8
    go_enter Tryd.func34, Tryd.ntmps34
    go_wp2_with (first
      | ((with_reducible refine gate_dst (N := 2) rfl ?_); refine box_event ?hg (N := 2) ?hd (cs := #[.int .i64 f0, .int .i64 f1, .int .i64 f2, .int .i64 f3, .slice A4 ops.length c4]) (t := 34) ?hr ?_; (case hd => rfl); (case hg => rfl); (case hr => first | (go_simp; done) | (go_simp; rfl)); intro g hg w2 hbox hb; have HX2 := Lib.hid hbox; have HB2 := Lib.hid hb; have z4 : w2.cell? ⟨g, 4, none⟩ = some (.slice A4 ops.length c4) := (blk_cell hbox 4).trans rfl; clear hbox hb hg))
    go_ret2
    exact ⟨rfl, HB2.out⟩
def legal_Own.f (a0_0 a0_1 a0_2 a0_3 : Int) (l0_4 : List S52) (l1 : List Int) : Option (Int × Int) := some (ownV l0_4 l1)
theorem legal_Own.calls (a0_0 a0_1 a0_2 a0_3 : Int) (A0_4 : Option Addr) (c0_4 : Nat) (l0_4 : List S52) (A1 : Option Addr) (c1 : Nat) (l1 : List Int) (r1 r2 : Int) (W : World) (hr0_4 : Kd.C k52 W A0_4 l0_4.length l0_4) (hc0_4 : l0_4.length ≤ c0_4) (hr1 : Kd.C (Kd.int .i64) W A1 l1.length l1) (hc1 : l1.length ≤ c1) (h : legal_Own.f a0_0 a0_1 a0_2 a0_3 l0_4 l1 = some (r1, r2)) (hT : KTab W) :
    Calls Tryd.prog 34 #[.agg #[.int .i64 a0_0, .int .i64 a0_1, .int .i64 a0_2, .int .i64 a0_3, .slice A0_4 l0_4.length c0_4], .slice A1 l1.length c1] W fun e w' => e = .returned (.tuple #[.int .i64 r1, .int .i64 r2]) ∧ Below W.heap.size W w' := by
  have hv := Option.some.inj h
  have := legal_own A0_4 c0_4 a0_0 a0_1 a0_2 a0_3 l0_4 A1 c1 l1 W hr0_4 hc0_4 hr1
  rw [hv] at this
  exact this
end Go.Proofs.YtkjkceeopkfniaaDoor.P

/- The document's Same, given: whether two rows of transactions are the same. -/
import Derived.Test.YtkjkceeopkfniaaDoorUNum
import Derived.Test.YtkjkceeopkfniaaDoorP0
import Derived.Test.YtkjkceeopkfniaaDoorP3
namespace Go.Proofs.YtkjkceeopkfniaaDoor.P
set_option linter.unusedVariables false
set_option linter.unusedSimpArgs false
open Go Go.RowKit Go.Proofs.YtkjkceeopkfniaaDoorW.PrintWords Go.Proofs.YtkjkceeopkfniaaDoorW.PrintLast Go.Proofs.YtkjkceeopkfniaaDoorW.PrintMore Go.Proofs.YtkjkceeopkfniaaDoor.U

def eqO (x y : S52) : Bool := (x.f0 == y.f0) && ((x.f1 == y.f1) && (x.f2 == y.f2))
def eqOs : List S52 → List S52 → Bool
  | [], [] => true
  | x :: s, y :: t => eqO x y && eqOs s t
  | _, _ => false
theorem eqOs_len : ∀ {s t : List S52}, s.length ≠ t.length → eqOs s t = false
  | [], [], h => absurd rfl h
  | [], _ :: _, _ => rfl
  | _ :: _, [], _ => rfl
  | x :: s, y :: t, h => by
    unfold eqOs
    rw [eqOs_len (s := s) (t := t) (by simpa using h), Bool.and_false]
theorem rdO (l : List S52) (i : Nat) (h : i < l.length) : rd_T52 l (i : Int) = l[i] := by
  unfold rd_T52; rw [Int.toNat_natCast, List.getD_eq_getElem?_getD, List.getElem?_eq_getElem h]; rfl
theorem rdT (l : List S34) (i : Nat) (h : i < l.length) : rd_T34 l (i : Int) = l[i] := by
  unfold rd_T34; rw [Int.toNat_natCast, List.getD_eq_getElem?_getD, List.getElem?_eq_getElem h]; rfl
theorem eqOs_drop (s t : List S52) (i : Nat) (hs : i < s.length) (ht : i < t.length) : eqOs (s.drop i) (t.drop i) = (eqO (rd_T52 s (i : Int)) (rd_T52 t (i : Int)) && eqOs (s.drop (i + 1)) (t.drop (i + 1))) := by
  rw [List.drop_eq_getElem_cons hs, List.drop_eq_getElem_cons ht, rdO s i hs, rdO t i ht]
  rfl
theorem ops_same (s t : List S52) (hs : s.length ≤ 9223372036854775807) (hl : s.length = t.length) (d : Nat) : ∀ i : Nat, i + d = s.length → Ev (fun k => recantref06_OpsSame.l0 k s t (s.length : Int) (i : Int)) (eqOs (s.drop i) (t.drop i)) := by
  induction d with
  | zero =>
    intro i hi
    refine ⟨1, fun k hk => ?_⟩
    obtain ⟨k, rfl⟩ : ∃ m, k = m + 1 := ⟨k - 1, by omega⟩
    simp only [recantref06_OpsSame.l0]
    rw [if_neg (by omega), List.drop_eq_nil_of_le (by omega : s.length ≤ i), List.drop_eq_nil_of_le (by omega : t.length ≤ i)]
    rfl
  | succ d ih =>
    intro i hi
    obtain ⟨K, e⟩ := ih (i + 1) (by omega)
    refine ⟨K + 1, fun k hk => ?_⟩
    obtain ⟨k, rfl⟩ : ∃ m, k = m + 1 := ⟨k - 1, by omega⟩
    have e := e k (by omega)
    dsimp only at e
    simp only [recantref06_OpsSame.l0]
    rw [if_pos (by omega), if_pos (by omega), if_pos (by omega), if_pos (by omega), w64 (by omega) (by omega), show ((i : Int) + 1) = ((i + 1 : Nat) : Int) by omega, e, eqOs_drop s t i (by omega) (by omega)]
    have hb : (!((rd_T52 s (i : Int)).f0 == (rd_T52 t (i : Int)).f0) || (!((rd_T52 s (i : Int)).f1 == (rd_T52 t (i : Int)).f1) || (!((rd_T52 s (i : Int)).f2 == (rd_T52 t (i : Int)).f2)))) = !eqO (rd_T52 s (i : Int)) (rd_T52 t (i : Int)) := by
      unfold eqO
      simp [Bool.not_and]
    rw [hb]
    cases eqO (rd_T52 s (i : Int)) (rd_T52 t (i : Int)) with
    | true => rw [if_neg (by simp)]; simp
    | false => rw [if_pos (by simp)]; simp
theorem ops_same_f (s t : List S52) (hs : s.length ≤ 9223372036854775807) : Ev (fun k => recantref06_OpsSame.f k s t) (eqOs s t) := by
  by_cases hl : s.length = t.length
  · obtain ⟨K, e⟩ := ops_same s t hs hl s.length 0 (by omega)
    refine ⟨K, fun k hk => ?_⟩
    have e := e k hk
    show recantref06_OpsSame.f k s t = some (eqOs s t)
    unfold recantref06_OpsSame.f
    rw [if_pos (by omega)]
    exact e
  · refine ⟨0, fun k _ => ?_⟩
    show recantref06_OpsSame.f k s t = some (eqOs s t)
    unfold recantref06_OpsSame.f
    rw [if_neg (by omega), eqOs_len hl]
theorem ops_run (A0 : Option Addr) (c0 : Nat) (s : List S52) (A1 : Option Addr) (c1 : Nat) (t : List S52) (W : World) (hr0 : Kd.C k52 W A0 s.length s) (hc0 : s.length ≤ c0) (hr1 : Kd.C k52 W A1 t.length t) (hc1 : t.length ≤ c1) :
    Calls Tryd.prog 24 #[.slice A0 s.length c0, .slice A1 t.length c1] W fun e w' => e = .returned (.bool (eqOs s t)) ∧ Drawn0 W w' := by
  obtain ⟨K, e⟩ := ops_same_f s t hr0.2.1
  exact recantref06_OpsSame.calls K A0 c0 s A1 c1 t _ W hr0 hc0 hr1 hc1 (e K (Nat.le_refl _))
def eqT (x y : S34) : Bool := (x.f0 == y.f0) && ((x.f1 == y.f1) && ((x.f2 == y.f2) && ((x.f3 == y.f3) && eqOs x.f4 y.f4)))
def eqTs : List S34 → List S34 → Bool
  | [], [] => true
  | x :: s, y :: t => eqT x y && eqTs s t
  | _, _ => false
theorem eqTs_len : ∀ {s t : List S34}, s.length ≠ t.length → eqTs s t = false
  | [], [], h => absurd rfl h
  | [], _ :: _, _ => rfl
  | _ :: _, [], _ => rfl
  | x :: s, y :: t, h => by
    unfold eqTs
    rw [eqTs_len (s := s) (t := t) (by simpa using h), Bool.and_false]
theorem eqTs_drop (s t : List S34) (i : Int) (h0 : 0 ≤ i) (hs : i < s.length) (ht : i < t.length) : eqTs (s.drop i.toNat) (t.drop i.toNat) = (eqT (rd_T34 s i) (rd_T34 t i) && eqTs (s.drop (i.toNat + 1)) (t.drop (i.toNat + 1))) := by
  have h1 := rdT s i.toNat (by omega)
  have h2 := rdT t i.toNat (by omega)
  rw [Int.toNat_of_nonneg h0] at h1 h2
  rw [List.drop_eq_getElem_cons (show i.toNat < s.length by omega), List.drop_eq_getElem_cons (show i.toNat < t.length by omega), h1, h2]
  rfl
def recantref06_Same.f (l0 l1 : List S34) : Option Bool := some (eqTs l0 l1)
set_option maxHeartbeats 16000000 in
set_option maxRecDepth 100000 in
theorem recantref06_Same.calls (A0 : Option Addr) (c0 : Nat) (l0 : List S34) (A1 : Option Addr) (c1 : Nat) (l1 : List S34) (r : Bool) (W : World) (hr0 : Kd.C k34 W A0 l0.length l0) (hc0 : l0.length ≤ c0) (hr1 : Kd.C k34 W A1 l1.length l1) (hc1 : l1.length ≤ c1) (h : recantref06_Same.f l0 l1 = some r) :
    Calls Tryd.prog 21 #[.slice A0 l0.length c0, .slice A1 l1.length c1] W fun e w' => e = .returned (.bool r) ∧ Below W.heap.size W w' := by
  have hv := Option.some.inj h
  have hmax : l0.length ≤ 9223372036854775807 := hr0.2.1
  have HR0 := Lib.hid hr0
  have HR1 := Lib.hid hr1
  clear hr0 hr1 h hc0 hc1
  by_cases hl : l0.length = l1.length
  · have c3b0 : ((l0.length : Int) == (l1.length : Int)) = true := beq_iff_eq.mpr (by omega)
    have c3b1 : ((l0.length : Int) != (l1.length : Int)) = false := bne_eq_false_iff_eq.mpr (by omega)
    have HV := Lib.hid hv
    have HL := Lib.hid hl
    have HM := Lib.hid hmax
    clear hv hl hmax
    go_enter Tryd.func21, Tryd.ntmps21
    go_wp2
    go_loopw [13] (fun v13 wr => ∃ x : Int, 0 ≤ x ∧ x ≤ (l0.length : Int) ∧ v13 = .int .i64 x ∧ Hid (r = eqTs (l0.drop x.toNat) (l1.drop x.toNat)) ∧ Hid (Below W.heap.size W wr)) (fun v13 _ => l0.length - (intOf v13).toNat)
    case atStart => exact ⟨0, by omega, by omega, rfl, Lib.hid HV.out.symm, Lib.hid (Below.refl _ _)⟩
    case round =>
      obtain ⟨x, hx, hxl, rfl, HI, HB⟩ := hrel
      clear HV
      by_cases hlt : x < (l0.length : Int)
      · have hlt1 : x < (l1.length : Int) := by have := HL.out; omega
        have hI := HI.out
        rw [eqTs_drop l0 l1 x hx hlt hlt1] at hI
        obtain ⟨ad, A4, c4, rfl, hx0, hx1, hx2, hx3, hx4, hxc, hxC⟩ := at_T34 (Kd.C_below HR0.out HB.out) x hx hlt
        obtain ⟨bd, B4, d4, rfl, hy0, hy1, hy2, hy3, hy4, hyc, hyC⟩ := at_T34 (Kd.C_below HR1.out HB.out) x hx hlt1
        obtain ⟨⟨a0, a1, a2, a3, oa⟩, ha⟩ : ∃ e, e = rd_T34 l0 x := ⟨_, rfl⟩
        obtain ⟨⟨b0, b1, b2, b3, ob⟩, hb⟩ : ∃ e, e = rd_T34 l1 x := ⟨_, rfl⟩
        rw [← ha] at hx0 hx1 hx2 hx3 hx4 hxc hxC hI
        rw [← hb] at hy0 hy1 hy2 hy3 hy4 hyc hyC hI
        dsimp only at hx0 hx1 hx2 hx3 hx4 hxc hxC hy0 hy1 hy2 hy3 hy4 hyc hyC
        unfold eqT at hI
        dsimp only at hI
        have c5b0 : decide (0 ≤ x) = true := decide_eq_true hx
        have c6b0 : decide (x < (l0.length : Int)) = true := decide_eq_true hlt
        have c7b0 : decide (x < (l1.length : Int)) = true := decide_eq_true hlt1
        have p5 := eq_true hx
        have q6 := eq_true hlt
        have q7 := eq_true hlt1
        have hst : wrap64 (x + 1) = x + 1 := w64 (by omega) (by have := HM.out; omega)
        have HST := Lib.hid hst
        have HLT := Lib.hid (show 0 ≤ x ∧ x < (l0.length : Int) from ⟨hx, hlt⟩)
        have hop := fun w (hw : Below W.heap.size W w) (h2 : Below wr.heap.size wr w) => ops_run A4 c4 oa B4 d4 ob w (Kd.C_below hxC h2) hxc (Kd.C_below hyC h2) hyc
        have HOP := Lib.hid hop
        clear HI ha hb hx hxl hlt hlt1 hxc hxC hyc hyC hst hop
        by_cases e0 : a0 = b0
        · subst e0
          rw [beq_self_eq_true, Bool.true_and] at hI
          by_cases e1 : a1 = b1
          · subst e1
            rw [beq_self_eq_true, Bool.true_and] at hI
            by_cases e2 : a2 = b2
            · subst e2
              rw [beq_self_eq_true, Bool.true_and] at hI
              by_cases e3 : a3 = b3
              · subst e3
                rw [beq_self_eq_true, Bool.true_and] at hI
                have HI := Lib.hid hI
                clear hI
                have HO : Hid (∀ w, Below wr.heap.size wr w → Calls Tryd.prog 24 #[.slice A4 oa.length c4, .slice B4 ob.length d4] w fun e w' => e = .returned (.bool (eqOs oa ob)) ∧ Drawn0 w w') := Lib.hid (fun w hw => HOP.out w (HB.out.trans (hw.mono HB.out.size)) hw)
                clear HOP
                obtain ⟨o, ho⟩ : ∃ o, o = eqOs oa ob := ⟨_, rfl⟩
                rw [← ho] at HI HO
                clear ho
                have hq : ∀ x : Nat, Calls Tryd.prog 24 #[.slice A4 oa.length c4, .slice B4 ob.length d4] (wr.drewN x) fun e w'' => e = .returned (.bool o) ∧ ∃ n, w'' = wr.drewN n := by
                  intro x
                  refine Calls.quiet_of ((HO.out _ (pw_below_drewN (Below.refl _ _) _)).mono ?_)
                  rintro e w'' ⟨rfl, ⟨hd⟩⟩
                  exact ⟨rfl, hd⟩
                have HQ := Lib.hid hq
                clear hq HO
                cases o with
                | true =>
                  go_upto_region 6 with (fail)
                  go_quiet (exact HQ.out _)
                  go_wp2
                  go_roundw
                  case rel => exact ⟨x + 1, by have := HLT.out; omega, by have := HLT.out; omega, by rw [HST.out], Lib.hid (by have h1 := HI.out; rw [Bool.true_and] at h1; rw [h1, show (x + 1).toNat = x.toNat + 1 by have := HLT.out; omega]), Lib.hid (by first | exact pw_below_drewN HB.out _ | exact below_drew HB.out | exact HB.out)⟩
                  case measure => have h1 := HLT.out; have h2 := HST.out; simp [intOf]; omega
                | false =>
                  go_upto_region 6 with (fail)
                  go_quiet (exact HQ.out _)
                  go_wp2
                  go_ret
                  exact ⟨by rw [HI.out]; rfl, by first | exact pw_below_drewN HB.out _ | exact below_drew HB.out | exact HB.out⟩
              · have n0 : (a3 != b3) = true := bne_iff_ne.2 e3
                rw [beq_eq_false_iff_ne.2 e3, Bool.false_and, Bool.false_and] at hI
                subst hI
                clear e3
                go_upto_region 6 with (fail)
                go_quiet (fail)
                go_wp2
                go_ret
                exact ⟨rfl, by first | exact pw_below_drewN HB.out _ | exact below_drew HB.out | exact HB.out⟩
            · have n0 : (a2 != b2) = true := bne_iff_ne.2 e2
              rw [beq_eq_false_iff_ne.2 e2, Bool.false_and, Bool.false_and] at hI
              subst hI
              clear e2
              go_upto_region 6 with (fail)
              go_quiet (fail)
              go_wp2
              go_ret
              exact ⟨rfl, by first | exact pw_below_drewN HB.out _ | exact below_drew HB.out | exact HB.out⟩
          · have n0 : (a1 != b1) = true := bne_iff_ne.2 e1
            rw [beq_eq_false_iff_ne.2 e1, Bool.false_and, Bool.false_and] at hI
            subst hI
            clear e1
            go_upto_region 6 with (fail)
            go_quiet (fail)
            go_wp2
            go_ret
            exact ⟨rfl, by first | exact pw_below_drewN HB.out _ | exact below_drew HB.out | exact HB.out⟩
        · have n0 : (a0 != b0) = true := bne_iff_ne.2 e0
          rw [beq_eq_false_iff_ne.2 e0, Bool.false_and, Bool.false_and] at hI
          subst hI
          clear e0
          go_upto_region 6 with (fail)
          go_quiet (fail)
          go_wp2
          go_ret
          exact ⟨rfl, by first | exact pw_below_drewN HB.out _ | exact below_drew HB.out | exact HB.out⟩
      · have e1 := HI.out
        obtain rfl : x = (l0.length : Int) := by omega
        rw [List.drop_eq_nil_of_le (by omega), List.drop_eq_nil_of_le (by have := HL.out; omega)] at e1
        have e2 : r = true := e1
        clear HI e1
        subst e2
        go_wp2
        go_ret
        exact ⟨rfl, HB.out⟩
  · have c3b0 : ((l0.length : Int) == (l1.length : Int)) = false := beq_eq_false_iff_ne.mpr (by omega)
    have c3b1 : ((l0.length : Int) != (l1.length : Int)) = true := bne_iff_ne.mpr (by omega)
    rw [eqTs_len hl] at hv
    subst hv
    clear hl
    go_enter Tryd.func21, Tryd.ntmps21
    go_wp2
    go_ret
    exact ⟨rfl, Below.refl _ _⟩
end Go.Proofs.YtkjkceeopkfniaaDoor.P

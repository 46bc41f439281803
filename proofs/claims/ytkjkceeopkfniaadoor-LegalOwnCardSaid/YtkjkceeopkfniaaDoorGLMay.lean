/- legal.may, by hand: why a row of places can't be looked at; else it is the table. -/
import Derived.Test.YtkjkceeopkfniaaDoorGTable
import Derived.Test.YtkjkceeopkfniaaDoorP1
import Derived.Test.YtkjkceeopkfniaaDoorGNames
import Derived.RangeFuncBox
import Derived.Lib.SliceRun
import Derived.WalkSpells
import Derived.Lib.Hide
namespace Go.Proofs.YtkjkceeopkfniaaDoor.P
set_option linter.unusedVariables false
set_option linter.unusedSimpArgs false
open Go Go.RowKit Go.Proofs.YtkjkceeopkfniaaDoorW.PrintWords Go.Proofs.YtkjkceeopkfniaaDoorW.PrintLast Go.Proofs.YtkjkceeopkfniaaDoorW.PrintMore Go.Proofs.YtkjkceeopkfniaaDoor.U

def outB (n : Nat) (i : Int) : Bool := decide (i < 0) || decide ((n : Int) ≤ i)
abbrev fOut (bt : Nat) : Value := .func (.func 125) #[] #[.pointer (some ⟨bt, 0, none⟩)]
theorem out_any (i : Int) (A : Option Addr) (n c : Nat) (bt : Nat) (W : World) (h : Boxed W bt 23 (.slice A n c)) :
    Calls Tryd.prog 125 #[.int .i64 i, .pointer (some ⟨bt, 0, none⟩)] W fun x w' => x = .returned (.bool (outB n i)) ∧ W = w' := by
  have hc := h.cell
  unfold outB
  by_cases h0 : i < 0
  · have d0 : decide (i < 0) = true := decide_eq_true h0
    rw [d0, Bool.true_or]
    clear h0 h
    go_enter Tryd.func125, Tryd.ntmps125
    go_wp2
    go_ret
    exact ⟨rfl, rfl⟩
  · have d0 : decide (i < 0) = false := decide_eq_false h0
    rw [d0, Bool.false_or]
    have h1 : 0 ≤ i := by omega
    obtain ⟨q, hq⟩ : ∃ q, q = decide ((n : Int) ≤ i) := ⟨_, rfl⟩
    have hq1 : decide (i ≥ (n : Int)) = q := by rw [hq]
    rw [← hq]
    clear h0 h hq
    go_enter Tryd.func125, Tryd.ntmps125
    go_wp2
    go_ret
    exact ⟨by first | rfl | (rw [← hq1]; rfl), rfl⟩
def idxO (g : Int → Bool) : List Int → Nat → Int
  | [], _ => -1
  | x :: t, i => if g x then i else idxO g t (i + 1)
theorem idxO_any (g : Int → Bool) (l : List Int) : ∀ i, decide (idxO g l i ≥ 0) = l.any g := by
  induction l with
  | nil => intro i; rfl
  | cons x t ih =>
    intro i
    unfold idxO
    cases hg : g x with
    | true => simp [hg]
    | false => simp only [Bool.false_eq_true, if_false]; rw [ih]; simp [hg]
theorem rdI (l : List Int) (k : Nat) (h : k < l.length) : rd l (k : Int) = l[k] := by
  unfold rd; rw [Int.toNat_natCast, List.getD_eq_getElem?_getD, List.getElem?_eq_getElem h]; rfl
theorem idxO_drop (g : Int → Bool) (l : List Int) (k : Nat) (h : k < l.length) : idxO g (l.drop k) k = if g (rd l k) then (k : Int) else idxO g (l.drop (k + 1)) (k + 1) := by
  rw [List.drop_eq_getElem_cons h, rdI l k h]; rfl
theorem index_out (A : Option Addr) (c n : Nat) (l : List Int) (A1 : Option Addr) (c1 : Nat) (B : Nat) (w : World) (hr : Kd.C (Kd.int .i64) w A l.length l) (hb : Boxed w B 23 (.slice A1 n c1)) :
    Calls Tryd.prog 112 #[.slice A l.length c, fOut B] w fun e w' => e = .returned (.int .i64 (idxO (outB n) l 0)) ∧ w = w' := by
  have HR := Lib.hid hr
  have hmax : l.length ≤ 9223372036854775807 := hr.2.1
  obtain ⟨g, hg⟩ : ∃ g : Int → Bool, g = outB n := ⟨_, rfl⟩
  have hcl : ∀ x, Calls Tryd.prog 125 #[.int .i64 x, .pointer (some ⟨B, 0, none⟩)] w fun e w' => e = .returned (.bool (g x)) ∧ w = w' := fun x => by rw [hg]; exact out_any x A1 n c1 B w hb
  rw [← hg]
  have HCL := Lib.hid hcl
  clear hr hg hcl hb
  go_enter Tryd.func112, Tryd.ntmps112
  go_wp2
  go_loop [8] (fun i => ∃ k : Nat, k ≤ l.length ∧ i = .int .i64 k ∧ Hid (idxO g l 0 = idxO g (l.drop k) k)) (fun i => l.length - (intOf i).toNat)
  case atStart => exact ⟨0, Nat.zero_le _, rfl, Lib.hid rfl⟩
  case round =>
    obtain ⟨k, hk, rfl, hI⟩ := hrel
    by_cases hlt : k < l.length
    · obtain ⟨ad, rfl, hcell⟩ := Kd.at_int HR.out (k : Int) (by omega) (by omega)
      rw [Int.toNat_natCast] at hcell
      have hd := Lib.hid (idxO_drop g l k hlt)
      obtain ⟨x, hx⟩ : ∃ x, x = rd l (k : Int) := ⟨_, rfl⟩
      rw [← hx] at hcell hd
      have ho := HCL.out x
      clear hx
      cases hgx : g x with
      | true =>
        rw [hgx] at ho
        have e1 := hd.out
        rw [hgx, if_pos rfl] at e1
        have e2 := Lib.hid (hI.out.trans e1)
        have HO := Lib.hid ho
        clear ho hgx hd hI e1
        go_wp2_with (go_at_call 125; refine HO.out.mono ?_; rintro e w' ⟨rfl, rfl⟩)
        go_ret
        exact ⟨by rw [e2.out]; rfl, rfl⟩
      | false =>
        rw [hgx] at ho
        have e1 := hd.out
        rw [hgx, if_neg (by simp)] at e1
        have e2 := Lib.hid (hI.out.trans e1)
        have HO := Lib.hid ho
        clear ho hgx hd hI e1
        go_wp2_with (go_at_call 125; refine HO.out.mono ?_; rintro e w' ⟨rfl, rfl⟩)
        go_round
        case rel => exact ⟨k + 1, by omega, by go_num, e2⟩
        case measure => simp [intOf]; omega
    · obtain rfl : k = l.length := by omega
      have e1 := hI.out
      rw [List.drop_length] at e1
      have e2 := Lib.hid e1
      clear hI e1
      go_wp2
      go_ret
      exact ⟨by rw [e2.out]; rfl, rfl⟩
theorem contains_out (A : Option Addr) (c n : Nat) (l : List Int) (A1 : Option Addr) (c1 : Nat) (B : Nat) (w : World) (hr : Kd.C (Kd.int .i64) w A l.length l) (hb : Boxed w B 23 (.slice A1 n c1)) :
    Calls Tryd.prog 124 #[.slice A l.length c, fOut B] w fun e w' => e = .returned (.bool (l.any (outB n))) ∧ w = w' := by
  have hi := index_out A c n l A1 c1 B w hr hb
  have ha := Lib.hid (idxO_any (outB n) l 0)
  obtain ⟨r, hr⟩ : ∃ r, r = idxO (outB n) l 0 := ⟨_, rfl⟩
  rw [← hr] at ha hi
  clear hr
  go_enter Tryd.func124, Tryd.ntmps124
  go_wp2_with (go_at_call 112; refine hi.mono ?_; rintro e w' ⟨rfl, rfl⟩)
  go_ret
  exact ⟨by rw [← ha.out]; rfl, rfl⟩
def dupP : List Int → List Int → Bool
  | _, [] => false
  | p, x :: t => p.contains x || dupP (p ++ [x]) t
/-- Why a row of places can't be looked at. -/
def mayE (e : Int) (n : Nat) (row : List Int) : Int := if e ≠ 0 then e else if row.any (outB n) = true then 7 else if dupP [] row = true then 1 else 0
theorem contains_call (A : Option Addr) (c : Nat) (l : List Int) (a : Int) (hl : l.length < 1000000) (w : World) (hr : Kd.C (Kd.int .i64) w A l.length l) (hc : l.length ≤ c) :
    Calls Tryd.prog 57 #[.slice A l.length c, .int .i64 a] w fun e w' => e = .returned (.bool (l.contains a)) ∧ Below w.heap.size w w' :=
  (slices_Contains_int_int.calls (l.length + 1) A c l a _ w hr hc (contains_run l a hl)).mono fun e w' h => ⟨h.1, by obtain ⟨n, hn⟩ := h.2.1; rw [hn]; exact pw_below_drewN (Below.refl _ _) n⟩
theorem lmay_int (x : Int) : intOf (.int .i64 x) = x := rfl
set_option maxHeartbeats 4000000 in
set_option maxRecDepth 100000 in
theorem may_run (A0 : Option Addr) (c0 : Nat) (b : List S36) (A1 : Option Addr) (c1 : Nat) (row : List Int) (l : List S34) (e : Int) (W : World) (hr0 : Kd.C k36 W A0 b.length b) (hc0 : b.length ≤ c0) (hr1 : Kd.C (Kd.int .i64) W A1 row.length row) (hc1 : row.length ≤ c1) (hrow : row.length ≤ 1000) (htab : table_Table.f b = some (l, e)) (hT : KTab W) :
    Calls Tryd.prog 91 #[.slice A0 b.length c0, .slice A1 row.length c1] W fun x w' => ∃ A c, x = .returned (.tuple #[.slice A (if mayE e l.length row = 0 then l.length else 0) c, .int .i64 (mayE e l.length row)]) ∧ (mayE e l.length row = 0 → l.length ≤ c ∧ Kd.C k34 w' A l.length l) ∧ Below W.heap.size W w' := by
  have htb := table_Table.calls A0 c0 b l e W hr0 hc0 htab hT
  have HTB := Lib.hid htb
  have HR1 := Lib.hid hr1
  have HC1 := Lib.hid hc1
  have HROW := Lib.hid hrow
  obtain ⟨m, hm⟩ : ∃ m, mayE e l.length row = m := ⟨_, rfl⟩
  rw [hm]
  unfold mayE at hm
  clear htb hr0 hc0 hr1 hc1 hrow htab hT
  by_cases he : e = 0
  · subst he
    rw [if_neg (by decide)] at hm
    obtain ⟨o, ho⟩ : ∃ o, o = row.any (outB l.length) := ⟨_, rfl⟩
    have hco := fun A1' c1' B w (hb : Below W.heap.size W w) (hx : Boxed w B 23 (.slice A1' l.length c1')) => contains_out A1 c1 l.length row A1' c1' B w (Kd.C_below HR1.out hb) hx
    rw [← ho] at hm hco
    have HCO := Lib.hid hco
    clear hco ho
    cases o with
    | true =>
      rw [if_pos rfl] at hm
      subst hm
      go_enter Tryd.func91, Tryd.ntmps91
      go_wp2_with (first
        | (go_at_call 18; refine HTB.out.mono ?_; rintro x w2 ⟨v2, rfl, hs2, hb2⟩; obtain ⟨B2, c2, rfl⟩ := Kd.R_slice (Kd.S_R hs2); have HB2 := Lib.hid hb2; clear hs2 hb2)
        | ((with_reducible refine gate_dst (N := 6) rfl ?_); refine box_event ?hg (N := 6) ?hd (cs := #[.slice none 0 0]) (t := 23) ?hr ?_; (case hd => rfl); (case hg => rfl); (case hr => first | (go_simp; done) | (go_simp; rfl)); intro g hg w3 hbox hb; have HX3 := Lib.hid hbox; have HB3 := Lib.hid (HB2.out.trans (hb.mono HB2.out.size)); have HG := Lib.hid (show W.heap.size ≤ g from by rw [hg]; exact HB2.out.size); have z0 : w3.cell? ⟨g, 0, none⟩ = some (.slice none 0 0) := (blk_cell hbox 0).trans rfl; have y0 := blk_frozen hbox 0; clear hbox hb hg)
        | (go_at_call 124; refine (HCO.out B2 c2 _ _ (HB3.out.setCell (p := ⟨_, 0, none⟩) HG.out _) (by have := blk_set HX3.out 0 (.slice B2 l.length c2); simpa [Boxed] using this)).mono ?_; rintro x w4 ⟨rfl, rfl⟩))
      go_ret2
      exact ⟨⟨none, 0, rfl⟩, HB3.out.setCell (p := ⟨_, 0, none⟩) HG.out _⟩
    | false =>
      rw [if_neg Bool.false_ne_true] at hm
      go_enter Tryd.func91, Tryd.ntmps91
      go_upto_region 6 with (first
        | (go_at_call 18; refine HTB.out.mono ?_; rintro x w2 ⟨v2, rfl, hs2, hb2⟩; obtain ⟨B2, c2, rfl⟩ := Kd.R_slice (Kd.S_R hs2); have HS2 := Lib.hid (Kd.R_reads' (Kd.S_R hs2)).2; have HB2 := Lib.hid hb2; clear hs2 hb2)
        | ((with_reducible refine gate_dst (N := 6) rfl ?_); refine box_event ?hg (N := 6) ?hd (cs := #[.slice none 0 0]) (t := 23) ?hr ?_; (case hd => rfl); (case hg => rfl); (case hr => first | (go_simp; done) | (go_simp; rfl)); intro g hg w3 hbox hb; have HX3 := Lib.hid hbox; have HB23 := Lib.hid hb; have HB3 := Lib.hid (HB2.out.trans (hb.mono HB2.out.size)); have HG2 := Lib.hid hg; have HG := Lib.hid (show W.heap.size ≤ g from by rw [hg]; exact HB2.out.size); have z0 : w3.cell? ⟨g, 0, none⟩ = some (.slice none 0 0) := (blk_cell hbox 0).trans rfl; have y0 := blk_frozen hbox 0; clear hbox hb hg)
        | (go_at_call 124; refine (HCO.out B2 c2 _ _ (HB3.out.setCell (p := ⟨_, 0, none⟩) HG.out _) (by have := blk_set HX3.out 0 (.slice B2 l.length c2); simpa [Boxed] using this)).mono ?_; rintro x w4 ⟨rfl, rfl⟩))
      have hX5 := blk_set HX3.out 0 (.slice B2 l.length c2)
      have hB5 := HB3.out.setCell (p := ⟨g, 0, none⟩) HG.out (.slice B2 l.length c2)
      have hB25 := HB23.out.setCell (p := ⟨g, 0, none⟩) (by rw [HG2.out]; exact Nat.le_refl _) (.slice B2 l.length c2)
      obtain ⟨w5, hw5⟩ : ∃ w5, w5 = w3.setCell ⟨g, 0, none⟩ (.slice B2 l.length c2) := ⟨_, rfl⟩
      rw [← hw5] at hX5 hB5 hB25 ⊢
      have z5 : w5.cell? ⟨g, 0, none⟩ = some (.slice B2 l.length c2) := (blk_cell hX5 0).trans (by simp)
      have HB5 := Lib.hid hB5
      have HB25 := Lib.hid hB25
      have HM := Lib.hid hm
      clear hX5 hB5 hB25 hw5 z0 y0 hm HCO HX3 HB23 HB3 HG HG2
      go_wp2
      go_loopw [25] (fun v25 wr => ∃ (k : Nat) (wq : World), wq = wr ∧ k ≤ row.length ∧ v25 = .int .i64 (k : Int) ∧ Hid (m = if dupP (row.take k) (row.drop k) = true then 1 else 0) ∧ Hid (Below w5.heap.size w5 wq)) (fun v25 _ => row.length - (intOf v25).toNat)
      case atStart => exact ⟨0, _, rfl, Nat.zero_le _, rfl, Lib.hid (by rw [List.take_zero, List.drop_zero]; exact HM.out.symm), Lib.hid (Below.refl _ _)⟩
      case round =>
        obtain ⟨k, wr, hwr, hk, rfl, HI, HBR⟩ := hrel
        subst hwr
        clear HM
        have HBW := Lib.hid (HB5.out.trans (HBR.out.mono HB5.out.size))
        have z6 := pw_cell_below HBR.out z5
        clear z5
        by_cases hlt : k < row.length
        · obtain ⟨ad, rfl, hcell⟩ := Kd.at_int (Kd.C_below HR1.out HBW.out) (k : Int) (by omega) (by omega)
          rw [Int.toNat_natCast, rdI row k hlt] at hcell
          have hkl : (row.take k).length = k := by rw [List.length_take]; omega
          have hcn := contains_call (some ad) c1 (row.take k) row[k] (by rw [hkl]; have := HROW.out; omega) wr (Kd.C_take (m := k) (Kd.C_below HR1.out HBW.out) (by omega)) (by rw [hkl]; have := HC1.out; omega)
          rw [hkl] at hcn
          have hI := HI.out
          rw [List.drop_eq_getElem_cons hlt] at hI
          replace hI : m = if ((row.take k).contains row[k] || dupP (row.take k ++ [row[k]]) (row.drop (k + 1))) = true then 1 else 0 := hI
          rw [← List.take_succ_eq_append_getElem hlt] at hI
          obtain ⟨x, hx⟩ : ∃ x, x = row[k] := ⟨_, rfl⟩
          rw [← hx] at hcell hcn hI
          obtain ⟨q, hq⟩ : ∃ q, q = (row.take k).contains x := ⟨_, rfl⟩
          rw [← hq] at hcn hI
          have HCN := Lib.hid hcn
          have q1 : (k : Int) ≤ (c1 : Int) := by have := HC1.out; omega
          have q2 : (0 : Int) ≤ (k : Int) := by omega
          have q3 : (k : Int) < (row.length : Int) := by omega
          have hst : wrap64 ((k : Int) + 1) = (k : Int) + 1 := w64 (by omega) (by have := HROW.out; omega)
          have hle1 : k + 1 ≤ row.length := hlt
          have HLE := Lib.hid hle1
          have HCA := Lib.hid (show Value.int .i64 (wrap64 ((k : Int) + 1)) = .int .i64 ((k + 1 : Nat) : Int) from by rw [hst]; exact congrArg _ (Int.natCast_succ k).symm)
          have HST := Lib.hid hst
          clear hcn hx hq hkl hst hle1 HI
          cases q with
          | true =>
            rw [Bool.true_or, if_pos rfl] at hI
            subst hI
            clear hlt hk
            go_wp2_with (go_at_call 57; refine HCN.out.mono ?_; rintro x w6 ⟨rfl, hb6⟩; have HB6 := Lib.hid (HBW.out.trans (hb6.mono HBW.out.size)); have HBR6 := Lib.hid (HBR.out.trans (hb6.mono HBR.out.size)); clear hb6)
            go_ret2
            exact ⟨⟨none, 0, rfl⟩, HB6.out⟩
          | false =>
            rw [Bool.false_or] at hI
            have HI2 := Lib.hid hI
            clear hI hlt hk
            go_wp2_with (go_at_call 57; refine HCN.out.mono ?_; rintro x w6 ⟨rfl, hb6⟩; have HB6 := Lib.hid (HBW.out.trans (hb6.mono HBW.out.size)); have HBR6 := Lib.hid (HBR.out.trans (hb6.mono HBR.out.size)); clear hb6)
            go_roundw
            case rel => exact ⟨k + 1, _, rfl, HLE.out, HCA.out, HI2, HBR6⟩
            case measure => have h1 := HLE.out; have h2 := HST.out; simp only [lmay_int, h2]; clear h2; omega
        · obtain rfl : k = row.length := by omega
          have e1 := HI.out
          rw [List.drop_length] at e1
          have e2 : m = 0 := e1
          clear e1 HI hlt hk
          subst e2
          go_wp2
          go_ret2
          exact ⟨B2, c2, rfl, ⟨HS2.out.1, Kd.C_below HS2.out.2 (HB25.out.trans (HBR.out.mono HB25.out.size))⟩, HBW.out⟩
  · rw [if_pos he] at hm
    subst hm
    have he1 : (e != 0) = true := bne_iff_ne.2 he
    have he2 : (e == 0) = false := beq_eq_false_iff_ne.2 he
    have HE := Lib.hid he
    clear he
    go_enter Tryd.func91, Tryd.ntmps91
    go_wp2_with (first
      | (go_at_call 18; refine HTB.out.mono ?_; rintro x w2 ⟨v2, rfl, hs2, hb2⟩; obtain ⟨B2, c2, rfl⟩ := Kd.R_slice (Kd.S_R hs2); have HB2 := Lib.hid hb2; clear hs2 hb2)
      | ((with_reducible refine gate_dst (N := 6) rfl ?_); refine box_event ?hg (N := 6) ?hd (cs := #[.slice none 0 0]) (t := 23) ?hr ?_; (case hd => rfl); (case hg => rfl); (case hr => first | (go_simp; done) | (go_simp; rfl)); intro g hg w3 hbox hb; have HB3 := Lib.hid (HB2.out.trans (hb.mono HB2.out.size)); have HG := Lib.hid (show W.heap.size ≤ g from by rw [hg]; exact HB2.out.size); have z0 : w3.cell? ⟨g, 0, none⟩ = some (.slice none 0 0) := (blk_cell hbox 0).trans rfl; have y0 := blk_frozen hbox 0; clear hbox hb hg))
    go_ret2
    exact ⟨⟨none, 0, rfl⟩, HB3.out.setCell (p := ⟨_, 0, none⟩) HG.out _⟩
end Go.Proofs.YtkjkceeopkfniaaDoor.P

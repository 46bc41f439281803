/- table.Find, given: the place of a name in a row of transactions. -/
import Derived.Test.YtkjkceeopkfniaaDoorUNum
import Derived.Test.YtkjkceeopkfniaaDoorP0
import Derived.RangeFuncBox
import Derived.Lib.SliceRun
import Derived.WalkSpells
import Derived.Lib.Hide
namespace Go.Proofs.YtkjkceeopkfniaaDoor.P
set_option linter.unusedVariables false
set_option linter.unusedSimpArgs false
open Go Go.RowKit Go.Proofs.YtkjkceeopkfniaaDoorW.PrintWords Go.Proofs.YtkjkceeopkfniaaDoorW.PrintLast Go.Proofs.YtkjkceeopkfniaaDoorW.PrintMore Go.Proofs.YtkjkceeopkfniaaDoor.U

def idxQ {α : Type} (g : α → Bool) : List α → Nat → Int
  | [], _ => -1
  | x :: t, i => if g x then i else idxQ g t (i + 1)
theorem idxQ_drop (g : S34 → Bool) (l : List S34) (k : Nat) (h : k < l.length) : idxQ g (l.drop k) k = if g (rd_T34 l (k : Int)) then (k : Int) else idxQ g (l.drop (k + 1)) (k + 1) := by
  rw [List.drop_eq_getElem_cons h]
  have : rd_T34 l (k : Int) = l[k] := by unfold rd_T34; rw [Int.toNat_natCast, List.getD_eq_getElem?_getD, List.getElem?_eq_getElem h]; rfl
  rw [this]; rfl
abbrev fFind (bn : Nat) : Value := .func (.func 80) #[] #[.pointer (some ⟨bn, 0, none⟩)]
def isN (n : Int) (t : S34) : Bool := t.f0 == n
theorem find_any (t : S34) (v4 : Value) (h4 : v4.oneCell' = true ∧ v4.cells.toList = [v4]) (n : Int) (bn : Nat) (W : World) (h : Boxed W bn 3 (.int .i64 n)) :
    Calls Tryd.prog 80 #[.agg #[.int .i64 t.f0, .int .i64 t.f1, .int .i64 t.f2, .int .i64 t.f3, v4], .pointer (some ⟨bn, 0, none⟩)] W fun x w' => x = .returned (.bool (isN n t)) ∧ Below W.heap.size W w' := by
  have HC := Lib.hid h
  clear h
  go_enter Tryd.func80, Tryd.ntmps80
  go_wp2_with (first
    | ((with_reducible refine gate_dst (N := 2) rfl ?_); refine box_event ?hg (N := 2) ?hd (cs := #[.int .i64 t.f0, .int .i64 t.f1, .int .i64 t.f2, .int .i64 t.f3, v4]) (t := 34) ?hr ?_; (case hd => rfl); (case hg => rfl); (case hr => first | (go_simp; done) | (go_simp; rfl)); intro g hg w1 hbox hb; have HB1 := Lib.hid hb; have z0 : w1.cell? ⟨g, 0, none⟩ = some (.int .i64 t.f0) := (blk_cell hbox 0).trans rfl; have zt : w1.cell? ⟨bn, 0, none⟩ = some (.int .i64 n) := pw_cell_below hb HC.out.cell; clear hbox hb hg))
  go_ret
  exact ⟨rfl, HB1.out⟩
set_option maxHeartbeats 1000000 in
theorem index_find (B : Option Addr) (n c2 : Nat) (ts : List S34) (nm : Int) (bn : Nat) (W : World) (hts : Kd.C k34 W B ts.length ts) (hb : Boxed W bn 3 (.int .i64 nm)) :
    Calls Tryd.prog 79 #[.slice B ts.length c2, fFind bn] W fun e w' => e = .returned (.int .i64 (idxQ (isN nm) ts 0)) ∧ Below W.heap.size W w' := by
  have HE := Lib.hid hts
  have hmax : ts.length ≤ 9223372036854775807 := hts.2.1
  obtain ⟨g, hg⟩ : ∃ g : S34 → Bool, g = isN nm := ⟨_, rfl⟩
  rw [← hg]
  have hcl : ∀ (t : S34) (A4 : Option Addr) (c4 : Nat) w, Below W.heap.size W w → Calls Tryd.prog 80 #[.agg #[.int .i64 t.f0, .int .i64 t.f1, .int .i64 t.f2, .int .i64 t.f3, .slice A4 t.f4.length c4], .pointer (some ⟨bn, 0, none⟩)] w fun x w' => x = .returned (.bool (g t)) ∧ Below w.heap.size w w' := by
    intro t A4 c4 w hw; rw [hg]; exact find_any t (.slice A4 t.f4.length c4) ⟨rfl, rfl⟩ nm bn w (blk_below hb hw)
  have HC := Lib.hid hcl
  clear hg hb hts hcl
  go_enter Tryd.func79, Tryd.ntmps79
  go_wp2
  go_loopw [8] (fun v8 wr => ∃ k : Nat, k ≤ ts.length ∧ v8 = .int .i64 (k : Int) ∧ Hid (idxQ g ts 0 = idxQ g (ts.drop k) k) ∧ Hid (Below W.heap.size W wr)) (fun v8 _ => ts.length - (intOf v8).toNat)
  case atStart => exact ⟨0, Nat.zero_le _, rfl, Lib.hid rfl, Lib.hid (Below.refl _ _)⟩
  case round =>
    obtain ⟨k, hk, rfl, hI, HB⟩ := hrel
    by_cases hlt : k < ts.length
    · obtain ⟨adE, A4, c4, rfl, hx0, hx1, hx2, hx3, hx4, _, _⟩ := at_T34 (Kd.C_below HE.out HB.out) (k : Int) (by omega) (by omega)
      have hd := Lib.hid (idxQ_drop g ts k hlt)
      obtain ⟨ev, hev⟩ : ∃ ev, ev = rd_T34 ts (k : Int) := ⟨_, rfl⟩
      rw [← hev] at hx0 hx1 hx2 hx3 hx4 hd
      rw [Int.toNat_natCast] at hx0 hx1 hx2 hx3 hx4
      clear hev
      have ho := HC.out ev A4 c4 wr HB.out
      cases hgx : g ev with
      | true =>
        rw [hgx] at ho
        have e1 := hd.out
        rw [hgx, if_pos rfl] at e1
        have e2 := Lib.hid (hI.out.trans e1)
        have HO := Lib.hid ho
        clear ho hgx hd hI e1
        go_wp2_with (go_at_call 80; refine HO.out.mono ?_; rintro e w' ⟨rfl, hb2⟩; have HB2 := Lib.hid (HB.out.trans (hb2.mono HB.out.size)); clear hb2)
        go_ret
        exact ⟨by rw [e2.out]; rfl, HB2.out⟩
      | false =>
        rw [hgx] at ho
        have e1 := hd.out
        rw [hgx, if_neg (by simp)] at e1
        have e2 := Lib.hid (hI.out.trans e1)
        have HO := Lib.hid ho
        clear ho hgx hd hI e1
        go_wp2_with (go_at_call 80; refine HO.out.mono ?_; rintro e w' ⟨rfl, hb2⟩; have HB2 := Lib.hid (HB.out.trans (hb2.mono HB.out.size)); clear hb2)
        go_roundw
        case rel => exact ⟨k + 1, by omega, by go_num, e2, HB2⟩
        case measure => simp [intOf]; omega
    · obtain rfl : k = ts.length := by omega
      have e1 := hI.out
      rw [List.drop_length] at e1
      have e2 := Lib.hid e1
      clear hI e1
      go_wp2
      go_ret
      exact ⟨by rw [e2.out]; rfl, HB.out⟩
def table_Find.f (l0 : List S34) (a1 : Int) : Option (Int × Int) := some (if idxQ (isN a1) l0 0 < 0 then (0, 7) else (idxQ (isN a1) l0 0, 0))
set_option maxHeartbeats 1000000 in
theorem table_Find.calls (A0 : Option Addr) (c0 : Nat) (l0 : List S34) (a1 : Int) (r1 : Int) (r2 : Int) (W : World) (hr0 : Kd.C k34 W A0 l0.length l0) (hc0 : l0.length ≤ c0) (h : table_Find.f l0 a1 = some (r1, r2)) :
    Calls Tryd.prog 23 #[.slice A0 l0.length c0, .int .i64 a1] W fun e w' => e = .returned (.tuple #[.int .i64 r1, .int .i64 r2]) ∧ Below W.heap.size W w' := by
  have hv := Option.some.inj h
  have HR := Lib.hid hr0
  obtain ⟨x, hx⟩ : ∃ x, x = idxQ (isN a1) l0 0 := ⟨_, rfl⟩
  have hix := fun w (hb : Below W.heap.size W w) bn (hbx : Boxed w bn 3 (.int .i64 a1)) => index_find A0 0 c0 l0 a1 bn w (Kd.C_below hr0 hb) hbx
  rw [← hx] at hix hv
  have HIX := Lib.hid hix
  clear hr0 hix hx h hc0
  by_cases hn : x < 0
  · rw [if_pos hn] at hv
    obtain ⟨rfl, rfl⟩ := Prod.mk.inj hv
    have hn1 : decide (x < 0) = true := decide_eq_true hn
    go_enter Tryd.func23, Tryd.ntmps23
    go_wp2_with (first
      | ((with_reducible refine gate_dst (N := 3) rfl ?_); refine box_event ?hg (N := 3) ?hd (cs := #[.int .i64 a1]) (t := 3) ?hr ?_; (case hd => rfl); (case hg => rfl); (case hr => first | (go_simp; done) | (go_simp; rfl)); intro g hg w1 hbox hb; have HX1 := Lib.hid (show Boxed w1 g 3 (.int .i64 a1) from hbox); have HB1 := Lib.hid hb; clear hbox hb hg)
      | (go_at_call 79; refine (HIX.out _ HB1.out _ HX1.out).mono ?_; rintro e w2 ⟨rfl, hb2⟩; have HB2 := Lib.hid (HB1.out.trans (hb2.mono HB1.out.size)); clear hb2))
    go_ret2
    exact ⟨rfl, HB2.out⟩
  · rw [if_neg hn] at hv
    obtain ⟨rfl, rfl⟩ := Prod.mk.inj hv
    have hn1 : decide (x < 0) = false := decide_eq_false hn
    go_enter Tryd.func23, Tryd.ntmps23
    go_wp2_with (first
      | ((with_reducible refine gate_dst (N := 3) rfl ?_); refine box_event ?hg (N := 3) ?hd (cs := #[.int .i64 a1]) (t := 3) ?hr ?_; (case hd => rfl); (case hg => rfl); (case hr => first | (go_simp; done) | (go_simp; rfl)); intro g hg w1 hbox hb; have HX1 := Lib.hid (show Boxed w1 g 3 (.int .i64 a1) from hbox); have HB1 := Lib.hid hb; clear hbox hb hg)
      | (go_at_call 79; refine (HIX.out _ HB1.out _ HX1.out).mono ?_; rintro e w2 ⟨rfl, hb2⟩; have HB2 := Lib.hid (HB1.out.trans (hb2.mono HB1.out.size)); clear hb2))
    go_ret2
    exact ⟨rfl, HB2.out⟩
end Go.Proofs.YtkjkceeopkfniaaDoor.P

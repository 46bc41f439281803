/- recantlaw06.TableAlone, by hand: the walk of its true ways. -/
import Derived.Test.YtkjkceeopkfniaaDoorGTable
import Derived.Test.YtkjkceeopkfniaaDoorGDel
import Derived.Test.YtkjkceeopkfniaaDoorP4
import Derived.Test.YtkjkceeopkfniaaDoorP3
import Derived.Deep.QuietTactic
import Derived.BigQuiet
namespace Go.Proofs.YtkjkceeopkfniaaDoor.P
set_option linter.unusedVariables false
set_option linter.unusedSimpArgs false
open Go Go.RowKit Go.Proofs.YtkjkceeopkfniaaDoorW.PrintWords Go.Proofs.YtkjkceeopkfniaaDoorW.PrintLast Go.Proofs.YtkjkceeopkfniaaDoorW.PrintMore Go.Proofs.YtkjkceeopkfniaaDoor.U

/-- What a row of the table is, alone. -/
structure OneH (k : Nat) (b : List S36) (t o : S34) : Prop where
  tb : table_Table.f (b.filter (keepE t.f0)) = some ([o], 0)
  nm : o.f0 = t.f0
  st : o.f3 = t.f3
  fi : o.f1 = 0
  os : recantref06_OpsSame.f k o.f4 t.f4 = some true
structure AloneH (k : Nat) (b : List S36) : Prop where
  al : recantlaw06_alive.f = some true
  bad : ∀ l e, table_Table.f b = some (l, e) → e ≠ 0 → l = []
  row : ∀ l, table_Table.f b = some (l, 0) → ∀ i, i < l.length → ∃ o, OneH k b (rd_T34 l (i : Int)) o
def recantlaw06_TableAlone.f (k : Nat) (l0 : List S36) : Prop := AloneH k (l0.take 65)
theorem alone_table (b : List S36) : ∃ x, table_Table.f b = some x := ⟨_, rfl⟩
/-- A struct that is stored in a new block. -/
theorem galone_int (x : Int) : intOf (.int .i64 x) = x := rfl
theorem box5 {W w : World} {g : Nat} {t : TypeId} {a0 a1 a2 a3 a4 : Value} (h : w.heap[g]? = some (.cells #[a0, a1, a2, a3, a4] t (0, 0))) (hb : Below W.heap.size W w) (hg : W.heap.size ≤ g) (x0 x1 x2 x3 x4 : Value) :
    ((((((w.setCell ⟨g, 0, none⟩ x0).setCell ⟨g, 1, none⟩ x1).setCell ⟨g, 2, none⟩ x2).setCell ⟨g, 3, none⟩ x3).setCell ⟨g, 4, none⟩ x4).heap[g]? = some (.cells #[x0, x1, x2, x3, x4] t (0, 0))) ∧ Below W.heap.size W (((((w.setCell ⟨g, 0, none⟩ x0).setCell ⟨g, 1, none⟩ x1).setCell ⟨g, 2, none⟩ x2).setCell ⟨g, 3, none⟩ x3).setCell ⟨g, 4, none⟩ x4) := by
  refine ⟨?_, ((((hb.setCell (p := ⟨g, 0, none⟩) hg _).setCell (p := ⟨g, 1, none⟩) hg _).setCell (p := ⟨g, 2, none⟩) hg _).setCell (p := ⟨g, 3, none⟩) hg _).setCell (p := ⟨g, 4, none⟩) hg _⟩
  have := blk_set (blk_set (blk_set (blk_set (blk_set h 0 x0) 1 x1) 2 x2) 3 x3) 4 x4
  simpa using this
set_option maxHeartbeats 4000000 in
set_option maxRecDepth 100000 in
theorem recantlaw06_TableAlone.calls (k : Nat) (A0 : Option Addr) (c0 : Nat) (l0 : List S36) (r : Bool) (W : World) (hr0 : Kd.C k36 W A0 l0.length l0) (hc0 : l0.length ≤ c0) (h : recantlaw06_TableAlone.f k l0 ∧ r = true) (hT : KTab W) :
    Calls Tryd.prog 5 #[.slice A0 l0.length c0] W fun e w' => e = .returned (.bool r) ∧ Below W.heap.size W w' := by
  obtain ⟨hH, rfl⟩ := h
  have hp0 : l0.length ≤ 9223372036854775807 := hr0.2.1
  unfold recantlaw06_TableAlone.f at hH
  obtain ⟨n, hn⟩ : ∃ n, n = min l0.length 65 := ⟨_, rfl⟩
  obtain ⟨b, hb⟩ : ∃ b, b = l0.take 65 := ⟨_, rfl⟩
  rw [← hb] at hH
  have hbl2 : b.length = n := by rw [hb, List.length_take]; omega
  have hrb : Kd.C k36 W A0 b.length b := by
    have : b = l0.take n := by rw [hb]; by_cases h : l0.length ≤ 65
                               · rw [List.take_of_length_le h, List.take_of_length_le (by omega)]
                               · rw [show n = 65 by omega]
    rw [this]; exact Kd.C_take (m := n) hr0 (by omega)
  have hm0 : min (l0.length : Int) 65 = (n : Int) := by omega
  have hmn : (if (65 : Int) < (l0.length : Int) then (65 : Int) else (l0.length : Int)) = (n : Int) := by split <;> omega
  have q1 : (n : Int) ≤ l0.length := by omega
  have hn65 : b.length ≤ 65 := by omega
  obtain ⟨⟨l, e⟩, htab⟩ := alone_table b
  have htb := fun w (hb : Below W.heap.size W w) => table_Table.calls A0 c0 b l e w (Kd.C_below hrb hb) (by omega) htab (hT.below hb)
  have HTB := Lib.hid htb
  have HRB := Lib.hid hrb
  have HH := Lib.hid hH
  have HTAB := Lib.hid htab
  have HT := Lib.hid hT
  have hc1 : b.length ≤ c0 := by omega
  have HC1 := Lib.hid hc1
  have HN65 := Lib.hid hn65
  clear hb hrb hH hT hr0 htb htab
  subst hbl2
  have p2 : (b.length : Int) ≤ (c0 : Int) := by omega
  clear hn hn65 hc1
  go_enter Tryd.func5, Tryd.ntmps5
  by_cases he : e = 0
  · subst he
    go_wp2_with (first
      | (go_at_call 18; refine (HTB.out _ (Below.refl _ _)).mono ?_; rintro x w2 ⟨v2, rfl, hs2, hb2⟩; obtain ⟨B2, c2, rfl⟩ := Kd.R_slice (Kd.S_R hs2); have HS2 := Lib.hid (Kd.R_reads' (Kd.S_R hs2)).2.2; have HB2 := Lib.hid hb2; clear hs2 hb2))
    have hll : l.length ≤ 9223372036854775807 := HS2.out.2.1
    have HLL := Lib.hid hll
    clear hll
    go_loopw [29] (fun v29 wr => ∃ i : Nat, i ≤ l.length ∧ v29 = .int .i64 (i : Int) ∧ Hid (Below w2.heap.size w2 wr)) (fun v29 _ => l.length - (intOf v29).toNat)
    case atStart => exact ⟨0, Nat.zero_le _, rfl, Lib.hid (Below.refl _ _)⟩
    case round =>
      obtain ⟨i, hi, rfl, HB⟩ := hrel
      by_cases hlt : i < l.length
      · have HBW : Hid (Below W.heap.size W wr) := Lib.hid (HB2.out.trans (HB.out.mono HB2.out.size))
        obtain ⟨o, hrow⟩ := HH.out.row l HTAB.out i hlt
        have HLT := Lib.hid hlt
        obtain ⟨ad, A4, c4, rfl, hx0, hx1, hx2, hx3, hx4, hxc, hxC⟩ := at_T34 (Kd.C_below HS2.out HB.out) (i : Int) (by omega) (by omega)
        obtain ⟨hc1, hc2, hc3, hc4, hc5⟩ := hrow
        obtain ⟨⟨nm, fi, la, st, os⟩, ht⟩ : ∃ t, t = rd_T34 l (i : Int) := ⟨_, rfl⟩
        obtain ⟨o0, o1, o2, o3, oo⟩ := o
        rw [← ht] at hx0 hx1 hx2 hx3 hx4 hxc hxC hc1 hc2 hc3 hc5
        dsimp only at hx0 hx1 hx2 hx3 hx4 hxc hxC hc1 hc2 hc3 hc4 hc5
        rw [Int.toNat_natCast] at hx0 hx1 hx2 hx3 hx4
        subst hc2 hc3 hc4
        have HXC := Lib.hid hxC
        have HXL := Lib.hid hxc
        have HTO := Lib.hid hc1
        have HOS := Lib.hid hc5
        clear hc1 hc5 ht hxc hxC hi hlt
        go_upto_region 8 with (first
          | ((with_reducible refine gate_dst (N := 6) rfl ?_); refine box_event ?hg (N := 6) ?hd (cs := #[.int .i64 0, .int .i64 0, .int .i64 0, .int .i64 0, .slice none 0 0]) (t := 34) ?hr ?_; (case hd => rfl); (case hg => rfl); (case hr => first | (go_simp; done) | (go_simp; rfl)); intro g8 g8h g8w hbox hb; have g8X := Lib.hid hbox; have g8B := Lib.hid hb; have g8H := Lib.hid g8h; clear g8h; have g8z0 : g8w.cell? ⟨g8, 0, none⟩ = some (.int .i64 0) := (blk_cell hbox 0).trans rfl; have g8z1 : g8w.cell? ⟨g8, 1, none⟩ = some (.int .i64 0) := (blk_cell hbox 1).trans rfl; have g8z2 : g8w.cell? ⟨g8, 2, none⟩ = some (.int .i64 0) := (blk_cell hbox 2).trans rfl; have g8z3 : g8w.cell? ⟨g8, 3, none⟩ = some (.int .i64 0) := (blk_cell hbox 3).trans rfl; have g8z4 : g8w.cell? ⟨g8, 4, none⟩ = some (.slice none 0 0) := (blk_cell hbox 4).trans rfl; have g8y0 := blk_frozen hbox 0; have g8y1 := blk_frozen hbox 1; have g8y2 := blk_frozen hbox 2; have g8y3 := blk_frozen hbox 3; have g8y4 := blk_frozen hbox 4; clear hbox hb))
        obtain ⟨W4, hW4⟩ : ∃ W4, W4 = ((((g8w.setCell ⟨g8, 0, none⟩ (.int .i64 o0)).setCell ⟨g8, 1, none⟩ (.int .i64 fi)).setCell ⟨g8, 2, none⟩ (.int .i64 la)).setCell ⟨g8, 3, none⟩ (.int .i64 o3)).setCell ⟨g8, 4, none⟩ (.slice A4 os.length c4) := ⟨_, rfl⟩
        have hbx := box5 g8X.out g8B.out (by rw [g8H.out]; exact Nat.le_refl _) (.int .i64 o0) (.int .i64 fi) (.int .i64 la) (.int .i64 o3) (.slice A4 os.length c4)
        rw [← hW4] at hbx ⊢
        have HX4 := Lib.hid hbx.1
        have HB4 := Lib.hid hbx.2
        have HN4 := Lib.hid (show BoxN W4 g8 o0 from ⟨_, _, _, _, HX4.out⟩)
        have HBW4 : Hid (Below W.heap.size W W4) := Lib.hid (HBW.out.trans (HB4.out.mono HBW.out.size))
        clear hW4 hbx g8X g8B g8H g8z0 g8z1 g8z2 g8z3 g8z4 g8y0 g8y1 g8y2 g8y3 g8y4 hx0 hx1 hx2 hx3 hx4
        go_upto_region 9 with (first
          | (go_at_call 26; refine (cloneE A0 c0 b W4 (Kd.C_below HRB.out HBW4.out) (by have := HN65.out; omega)).mono ?_; rintro x w5 ⟨v5, rfl, hr5, hb5⟩; have HR5 := Lib.hid hr5; have HB5 := Lib.hid hb5; clear hr5 hb5)
          | (go_at_call 25; refine (delete_al _ b o0 g8 W4.heap.size w5 HR5.out (HN4.out.below HB5.out) HB5.out.size).mono ?_; rintro x w6 ⟨v6, rfl, hr6, hb6⟩; obtain ⟨A6, c6, rfl⟩ := Kd.R_slice hr6; have HR6 := Lib.hid hr6; have HB6 := Lib.hid (HB5.out.trans hb6); have HBW6 := Lib.hid (HBW4.out.trans (HB6.out.mono HBW4.out.size)); clear hr6 hb6)
          | (go_at_call 18; refine (table_Table.calls A6 c6 (b.filter (keepE o0)) [⟨o0, 0, o2, o3, oo⟩] 0 w6 (Kd.R_reads' HR6.out).2.2 (Kd.R_reads' HR6.out).2.1 HTO.out (HT.out.below HBW6.out)).mono ?_; rintro x w7 ⟨v7, rfl, hs7, hb7⟩; obtain ⟨B7, c7, rfl⟩ : ∃ B c, v7 = .slice B 1 c := Kd.R_slice (Kd.S_R hs7); have HS7 := Lib.hid (Kd.R_reads' (Kd.S_R hs7)).2.2; have HB7 := Lib.hid (HB6.out.trans (hb7.mono HB6.out.size)); clear hs7 hb7))
        have HX7 := Lib.hid (blk_below HX4.out HB7.out)
        have HBr7 : Hid (Below wr.heap.size wr w7) := Lib.hid (HB4.out.trans (HB7.out.mono HB4.out.size))
        have HB27 : Hid (Below w2.heap.size w2 w7) := Lib.hid (HB.out.trans (HBr7.out.mono HB.out.size))
        obtain ⟨bd, A8, c8, rfl, hy0, hy1, hy2, hy3, hy4, hyc, hyC⟩ := at_T34 (show Kd.C k34 w7 B7 1 [⟨o0, 0, o2, o3, oo⟩] from HS7.out) 0 (by omega) (by omega)
        rw [show rd_T34 [(⟨o0, 0, o2, o3, oo⟩ : S34)] 0 = ⟨o0, 0, o2, o3, oo⟩ from rfl] at hy0 hy1 hy2 hy3 hy4 hyc hyC
        dsimp only at hy0 hy1 hy2 hy3 hy4 hyc hyC
        rw [show (0 : Int).toNat = 0 from rfl, Nat.zero_mul] at hy0 hy1 hy2 hy3 hy4
        have had0 : bd.add 0 = bd := by obtain ⟨q1, q2, q3⟩ := bd; unfold Addr.add; split <;> simp_all
        have m0 := hy0
        have m1 := hy1
        have m3 := hy3
        have m4 := hy4
        rw [had0] at m0 m1 m3 m4
        clear had0
        have hoc : ∀ w, Below w7.heap.size w7 w → Calls Tryd.prog 24 #[.slice A8 oo.length c8, .slice A4 os.length c4] w fun e w' => e = .returned (.bool true) ∧ Drawn0 w w' := by
          intro w hw
          exact recantref06_OpsSame.calls k A8 c8 oo A4 c4 os true w (Kd.C_below hyC hw) hyc (Kd.C_below (Kd.C_below HXC.out HBr7.out) hw) HXL.out HOS.out
        have hq : ∀ x : Nat, Calls Tryd.prog 24 #[.slice A8 oo.length c8, .slice A4 os.length c4] (w7.drewN x) fun e w'' => e = .returned (.bool true) ∧ ∃ n, w'' = w7.drewN n := by
          intro x
          refine Calls.quiet_of ((hoc _ (pw_below_drewN (Below.refl _ _) _)).mono ?_)
          rintro e w'' ⟨rfl, ⟨hd⟩⟩
          exact ⟨rfl, hd⟩
        have HQ := Lib.hid hq
        have u0 : w7.cell? ⟨g8, 0, none⟩ = some (.int .i64 o0) := (blk_cell HX7.out 0).trans rfl
        have u3 : w7.cell? ⟨g8, 3, none⟩ = some (.int .i64 o3) := (blk_cell HX7.out 3).trans rfl
        have u4 : w7.cell? ⟨g8, 4, none⟩ = some (.slice A4 os.length c4) := (blk_cell HX7.out 4).trans rfl
        have hst : wrap64 ((i : Int) + 1) = (i : Int) + 1 := w64 (by omega) (by have := HLL.out; have := HLT.out; omega)
        clear hq hoc hyc hyC
        go_big_quiet (exact HQ.out _)
        go_wp2
        go_roundw
        case rel => exact ⟨i + 1, by have := HLT.out; omega, by go_num, Lib.hid (pw_below_drewN HB27.out _)⟩
        case measure => have h9 := HLT.out; simp only [galone_int, hst]; clear hst; omega
      · have HBW : Hid (Below W.heap.size W wr) := Lib.hid (HB2.out.trans (HB.out.mono HB2.out.size))
        have HAL := Lib.hid HH.out.al
        clear hi
        go_wp2_with (first
          | (go_at_call 20; refine (recantlaw06_alive.calls true _ HAL.out (HT.out.below HBW.out)).mono ?_; rintro x w8 ⟨rfl, hb8⟩; have HB8 := Lib.hid (HBW.out.trans (hb8.mono HBW.out.size)); clear hb8))
        go_ret
        exact ⟨rfl, HB8.out⟩
  · have hl0 := HH.out.bad l e HTAB.out he
    subst hl0
    have he1 : (e != 0) = true := bne_iff_ne.2 he
    have he2 : (e == 0) = false := beq_eq_false_iff_ne.2 he
    have HAL := Lib.hid HH.out.al
    clear he
    go_wp2_with (first
      | (go_at_call 18; refine (HTB.out _ (Below.refl _ _)).mono ?_; rintro x w2 ⟨v2, rfl, hs2, hb2⟩; obtain ⟨B2, c2, rfl⟩ := Kd.R_slice (Kd.S_R hs2); have HB2 := Lib.hid hb2; clear hs2 hb2)
      | (go_at_call 20; refine (recantlaw06_alive.calls true _ HAL.out (HT.out.below HB2.out)).mono ?_; rintro x w8 ⟨rfl, hb8⟩; have HB8 := Lib.hid (HB2.out.trans (hb8.mono HB2.out.size)); clear hb8))
    go_ret
    exact ⟨rfl, HB8.out⟩
end Go.Proofs.YtkjkceeopkfniaaDoor.P

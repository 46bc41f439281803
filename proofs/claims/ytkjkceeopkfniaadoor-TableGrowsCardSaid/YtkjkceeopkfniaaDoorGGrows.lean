/- recantlaw06.TableGrows, by hand: the walk of its true ways. -/
import Derived.Test.YtkjkceeopkfniaaDoorGTable
import Derived.Test.YtkjkceeopkfniaaDoorGFind
import Derived.Test.YtkjkceeopkfniaaDoorP4
import Derived.Test.YtkjkceeopkfniaaDoorP3
import Derived.Test.YtkjkceeopkfniaaDoorUGrows
import Derived.Deep.QuietTactic
import Derived.BigQuiet
namespace Go.Proofs.YtkjkceeopkfniaaDoor.P
set_option linter.unusedVariables false
set_option linter.unusedSimpArgs false
open Go Go.RowKit Go.Proofs.YtkjkceeopkfniaaDoorW.PrintWords Go.Proofs.YtkjkceeopkfniaaDoorW.PrintLast Go.Proofs.YtkjkceeopkfniaaDoorW.PrintMore Go.Proofs.YtkjkceeopkfniaaDoor.U

/-- What a row of the table keeps. -/
structure RowH (b : List S36) (l : List S34) (i : Nat) : Prop where
  cnt : (cntA b (rd_T34 l (i : Int)).f0 : Int) = ((rd_T34 l (i : Int)).f4.length : Int)
  idx : idxQ (isN (rd_T34 l (i : Int)).f0) l 0 = (i : Int)
  rise : 0 < i → (rd_T34 l ((i : Int) - 1)).f1 < (rd_T34 l (i : Int)).f1
  fl : (rd_T34 l (i : Int)).f1 ≤ (rd_T34 l (i : Int)).f2
/-- What a row keeps of the shorter table's. -/
structure PreH (k : Nat) (l m : List S34) (i : Nat) : Prop where
  nm : (rd_T34 m (i : Int)).f0 = (rd_T34 l (i : Int)).f0
  fi : (rd_T34 m (i : Int)).f1 = (rd_T34 l (i : Int)).f1
  la : (rd_T34 m (i : Int)).f2 ≤ (rd_T34 l (i : Int)).f2
  le : (rd_T34 m (i : Int)).f4.length ≤ (rd_T34 l (i : Int)).f4.length
  os : recantref06_OpsSame.f k (rd_T34 m (i : Int)).f4 ((rd_T34 l (i : Int)).f4.take (rd_T34 m (i : Int)).f4.length) = some true
structure GrowsH (k : Nat) (b : List S36) : Prop where
  al : recantlaw06_alive.f = some true
  bad : ∀ l e, table_Table.f b = some (l, e) → e ≠ 0 → l = []
  row : ∀ l, table_Table.f b = some (l, 0) → ∀ i, i < l.length → RowH b l i
  cut : ∀ l n, table_Table.f b = some (l, 0) → n ≤ b.length → ∃ m, table_Table.f (b.take n) = some (m, 0) ∧ m.length ≤ l.length ∧ ∀ i, i < m.length → PreH k l m i
def recantlaw06_TableGrows.f (k : Nat) (l0 : List S36) (a1 : Int) : Prop := GrowsH k (l0.take 65)
/-- A struct that is stored in a new block. -/
theorem ggrows_int (x : Int) : intOf (.int .i64 x) = x := rfl
theorem box5 {W w : World} {g : Nat} {t : TypeId} {a0 a1 a2 a3 a4 : Value} (h : w.heap[g]? = some (.cells #[a0, a1, a2, a3, a4] t (0, 0))) (hb : Below W.heap.size W w) (hg : W.heap.size ≤ g) (x0 x1 x2 x3 x4 : Value) :
    ((((((w.setCell ⟨g, 0, none⟩ x0).setCell ⟨g, 1, none⟩ x1).setCell ⟨g, 2, none⟩ x2).setCell ⟨g, 3, none⟩ x3).setCell ⟨g, 4, none⟩ x4).heap[g]? = some (.cells #[x0, x1, x2, x3, x4] t (0, 0))) ∧ Below W.heap.size W (((((w.setCell ⟨g, 0, none⟩ x0).setCell ⟨g, 1, none⟩ x1).setCell ⟨g, 2, none⟩ x2).setCell ⟨g, 3, none⟩ x3).setCell ⟨g, 4, none⟩ x4) := by
  refine ⟨?_, ((((hb.setCell (p := ⟨g, 0, none⟩) hg _).setCell (p := ⟨g, 1, none⟩) hg _).setCell (p := ⟨g, 2, none⟩) hg _).setCell (p := ⟨g, 3, none⟩) hg _).setCell (p := ⟨g, 4, none⟩) hg _⟩
  have := blk_set (blk_set (blk_set (blk_set (blk_set h 0 x0) 1 x1) 2 x2) 3 x3) 4 x4
  simpa using this
theorem box4 {W w : World} {g : Nat} {t : TypeId} {a0 a1 a2 a3 : Value} (h : w.heap[g]? = some (.cells #[a0, a1, a2, a3] t (0, 0))) (hb : Below W.heap.size W w) (hg : W.heap.size ≤ g) (x0 x1 x2 x3 : Value) :
    (((((w.setCell ⟨g, 0, none⟩ x0).setCell ⟨g, 1, none⟩ x1).setCell ⟨g, 2, none⟩ x2).setCell ⟨g, 3, none⟩ x3).heap[g]? = some (.cells #[x0, x1, x2, x3] t (0, 0))) ∧ Below W.heap.size W ((((w.setCell ⟨g, 0, none⟩ x0).setCell ⟨g, 1, none⟩ x1).setCell ⟨g, 2, none⟩ x2).setCell ⟨g, 3, none⟩ x3) := by
  refine ⟨?_, (((hb.setCell (p := ⟨g, 0, none⟩) hg _).setCell (p := ⟨g, 1, none⟩) hg _).setCell (p := ⟨g, 2, none⟩) hg _).setCell (p := ⟨g, 3, none⟩) hg _⟩
  have := blk_set (blk_set (blk_set (blk_set h 0 x0) 1 x1) 2 x2) 3 x3
  simpa using this
theorem grows_mod (a : Int) (n : Nat) (hn : n ≤ 65) : ∃ kk : Nat, kk ≤ n ∧ ((a.tmod ((n : Int) + 1)) + n + 1).tmod ((n : Int) + 1) = (kk : Int) := by
  have h1 : -((n : Int) + 1) < a.tmod ((n : Int) + 1) := by
    have := Int.lt_tmod_of_pos a (show (0 : Int) < (n : Int) + 1 by omega)
    omega
  have h2 : a.tmod ((n : Int) + 1) < (n : Int) + 1 := Int.tmod_lt_of_pos a (by omega)
  have h3 : 0 ≤ ((a.tmod ((n : Int) + 1)) + n + 1).tmod ((n : Int) + 1) := Int.tmod_nonneg _ (by omega)
  have h4 : ((a.tmod ((n : Int) + 1)) + n + 1).tmod ((n : Int) + 1) < (n : Int) + 1 := Int.tmod_lt_of_pos _ (by omega)
  exact ⟨(((a.tmod ((n : Int) + 1)) + n + 1).tmod ((n : Int) + 1)).toNat, by omega, by omega⟩
theorem grows_w (t : Int) (n : Nat) (hn : n ≤ 65) (h1 : -((n : Int) + 1) < t) (h2 : t < (n : Int) + 1) : wrap64 t = t ∧ wrap64 (t + n) = t + n ∧ wrap64 (t + n + 1) = t + n + 1 := ⟨w64 (by omega) (by omega), w64 (by omega) (by omega), w64 (by omega) (by omega)⟩
theorem grows_v (a : Int) (n k : Nat) (hn : n ≤ 65) (hk : k ≤ n) : wrap64 ((n : Int) + 1) = (n : Int) + 1 ∧ wrap64 (a.tmod ((n : Int) + 1)) = a.tmod ((n : Int) + 1) ∧ wrap64 (a.tmod ((n : Int) + 1) + (n : Int)) = a.tmod ((n : Int) + 1) + (n : Int) ∧ wrap64 (a.tmod ((n : Int) + 1) + (n : Int) + 1) = a.tmod ((n : Int) + 1) + (n : Int) + 1 ∧ wrap64 (k : Int) = (k : Int) ∧ ¬ ((n : Int) + 1 = 0) := by
  have h1 := Int.lt_tmod_of_pos a (show (0 : Int) < (n : Int) + 1 by omega)
  have h2 : a.tmod ((n : Int) + 1) < (n : Int) + 1 := Int.tmod_lt_of_pos a (by omega)
  generalize a.tmod ((n : Int) + 1) = t at *
  obtain ⟨e1, e2, e3⟩ := grows_w t n hn (by omega) h2
  exact ⟨w64 (by omega) (by omega), e1, e2, e3, w64 (by omega) (by omega), by omega⟩
set_option maxHeartbeats 4000000 in
set_option maxRecDepth 100000 in
theorem recantlaw06_TableGrows.calls (k : Nat) (A0 : Option Addr) (c0 : Nat) (l0 : List S36) (a1 : Int) (r : Bool) (W : World) (hr0 : Kd.C k36 W A0 l0.length l0) (hc0 : l0.length ≤ c0) (h : recantlaw06_TableGrows.f k l0 a1 ∧ r = true) (hT : KTab W) :
    Calls Tryd.prog 4 #[.slice A0 l0.length c0, .int .i64 a1] W fun e w' => e = .returned (.bool r) ∧ Below W.heap.size W w' := by
  obtain ⟨hH, rfl⟩ := h
  have hp0 : l0.length ≤ 9223372036854775807 := hr0.2.1
  unfold recantlaw06_TableGrows.f at hH
  obtain ⟨n, hn⟩ : ∃ n, n = min l0.length 65 := ⟨_, rfl⟩
  obtain ⟨b, hb⟩ : ∃ b, b = l0.take 65 := ⟨_, rfl⟩
  rw [← hb] at hH
  have hbl2 : b.length = n := by rw [hb, List.length_take]; omega
  have hrb : Kd.C k36 W A0 b.length b := by
    have : b = l0.take n := by rw [hb]; by_cases h : l0.length ≤ 65
                               · rw [List.take_of_length_le h, List.take_of_length_le (by omega)]
                               · rw [show n = 65 by omega]
    rw [this]; exact Kd.C_take (m := n) hr0 (by omega)
  have hm0 : min (l0.length : Int) 65 = (n : Int) := by omega
  have hmn : (if (65 : Int) < (l0.length : Int) then (65 : Int) else (l0.length : Int)) = (n : Int) := by split <;> omega
  have q1 : (n : Int) ≤ l0.length := by omega
  have hn65 : b.length ≤ 65 := by omega
  obtain ⟨kk, hkk, hmod⟩ := grows_mod a1 b.length hn65
  obtain ⟨v1, v2, v3, v4, v5, v6⟩ := grows_v a1 b.length kk hn65 hkk
  obtain ⟨⟨l, e⟩, htab⟩ : ∃ x, table_Table.f b = some x := ⟨_, why_table b⟩
  have htb := fun w (hb : Below W.heap.size W w) => table_Table.calls A0 c0 b l e w (Kd.C_below hrb hb) (by omega) htab (hT.below hb)
  have HTB := Lib.hid htb
  have HRB := Lib.hid hrb
  have HH := Lib.hid hH
  have HTAB := Lib.hid htab
  have HT := Lib.hid hT
  have hc1 : b.length ≤ c0 := by omega
  have HC1 := Lib.hid hc1
  have HKK := Lib.hid hkk
  have HN65 := Lib.hid hn65
  clear hb hrb hH hT hr0 htb htab hkk
  subst hbl2
  have p2 : (b.length : Int) ≤ (c0 : Int) := by omega
  clear hn hn65 hc1
  go_enter Tryd.func4, Tryd.ntmps4
  by_cases he : e = 0
  · subst he
    go_wp2_with (first
      | (go_at_call 18; refine (HTB.out _ (Below.refl _ _)).mono ?_; rintro x w2 ⟨v2, rfl, hs2, hb2⟩; obtain ⟨B2, c2, rfl⟩ := Kd.R_slice (Kd.S_R hs2); have HS2 := Lib.hid (Kd.R_reads' (Kd.S_R hs2)).2.2; have HC2 := Lib.hid (Kd.R_reads' (Kd.S_R hs2)).2.1; have HB2 := Lib.hid hb2; clear hs2 hb2))
    clear v1 v2 v3 v4 v5 v6 hmod
    have hll : l.length ≤ 9223372036854775807 := HS2.out.2.1
    have HLL := Lib.hid hll
    clear hll
    go_loopw [52] (fun v52 wr => ∃ i : Nat, i ≤ l.length ∧ v52 = .int .i64 (i : Int) ∧ Hid (Below w2.heap.size w2 wr)) (fun v52 _ => l.length - (intOf v52).toNat)
    case atStart => exact ⟨0, Nat.zero_le _, rfl, Lib.hid (Below.refl _ _)⟩
    case round =>
      obtain ⟨i, hi, rfl, HB⟩ := hrel
      by_cases hlt : i < l.length
      · have HBW : Hid (Below W.heap.size W wr) := Lib.hid (HB2.out.trans (HB.out.mono HB2.out.size))
        have hrow := HH.out.row l HTAB.out i hlt
        have HLT := Lib.hid hlt
        have hprev : 0 < i → ∃ (pd : Addr) (p1 : Int), B2 = some pd ∧ wr.cell? ⟨(pd.add (((i : Int) - 1).toNat * 5)).block, (pd.add (((i : Int) - 1).toNat * 5)).off + 1, none⟩ = some (.int .i64 p1) ∧ p1 < (rd_T34 l (i : Int)).f1 := by
          intro h0
          obtain ⟨pd, A5, c5, e5, _, h1, _, _, _, _, _⟩ := at_T34 (Kd.C_below HS2.out HB.out) ((i : Int) - 1) (by omega) (by omega)
          exact ⟨pd, _, e5, h1, hrow.rise h0⟩
        obtain ⟨ad, A4, c4, rfl, hx0, hx1, hx2, hx3, hx4, hxc, hxC⟩ := at_T34 (Kd.C_below HS2.out HB.out) (i : Int) (by omega) (by omega)
        obtain ⟨hc1, hc2, hc3, hc4⟩ := hrow
        obtain ⟨⟨nm, fi, la, st, os⟩, ht⟩ : ∃ t, t = rd_T34 l (i : Int) := ⟨_, rfl⟩
        rw [← ht] at hx0 hx1 hx2 hx3 hx4 hxc hxC hc1 hc2 hc4 hprev
        dsimp only at hx0 hx1 hx2 hx3 hx4 hxc hxC hc1 hc2 hc4 hprev
        rw [Int.toNat_natCast] at hx0 hx1 hx2 hx3 hx4
        have HPR := Lib.hid hprev
        have HCN := Lib.hid hc1
        have HIX := Lib.hid hc2
        have HFL := Lib.hid hc4
        clear hprev hc1 hc2 hc3 hc4 ht hxc hxC hi hlt
        go_upto_region 9 with (first
          | ((with_reducible refine gate_dst (N := 8) rfl ?_); refine box_event ?hg (N := 8) ?hd (cs := #[.int .i64 0, .int .i64 0, .int .i64 0, .int .i64 0, .slice none 0 0]) (t := 34) ?hr ?_; (case hd => rfl); (case hg => rfl); (case hr => first | (go_simp; done) | (go_simp; rfl)); intro g8 g8h g8w hbox hb; have g8X := Lib.hid hbox; have g8B := Lib.hid hb; have g8H := Lib.hid g8h; clear g8h; have g8z0 : g8w.cell? ⟨g8, 0, none⟩ = some (.int .i64 0) := (blk_cell hbox 0).trans rfl; have g8z1 : g8w.cell? ⟨g8, 1, none⟩ = some (.int .i64 0) := (blk_cell hbox 1).trans rfl; have g8z2 : g8w.cell? ⟨g8, 2, none⟩ = some (.int .i64 0) := (blk_cell hbox 2).trans rfl; have g8z3 : g8w.cell? ⟨g8, 3, none⟩ = some (.int .i64 0) := (blk_cell hbox 3).trans rfl; have g8z4 : g8w.cell? ⟨g8, 4, none⟩ = some (.slice none 0 0) := (blk_cell hbox 4).trans rfl; have g8y0 := blk_frozen hbox 0; have g8y1 := blk_frozen hbox 1; have g8y2 := blk_frozen hbox 2; have g8y3 := blk_frozen hbox 3; have g8y4 := blk_frozen hbox 4; clear hbox hb))
        obtain ⟨W4, hW4⟩ : ∃ W4, W4 = ((((g8w.setCell ⟨g8, 0, none⟩ (.int .i64 nm)).setCell ⟨g8, 1, none⟩ (.int .i64 fi)).setCell ⟨g8, 2, none⟩ (.int .i64 la)).setCell ⟨g8, 3, none⟩ (.int .i64 st)).setCell ⟨g8, 4, none⟩ (.slice A4 os.length c4) := ⟨_, rfl⟩
        have hbx := box5 g8X.out g8B.out (by rw [g8H.out]; exact Nat.le_refl _) (.int .i64 nm) (.int .i64 fi) (.int .i64 la) (.int .i64 st) (.slice A4 os.length c4)
        rw [← hW4] at hbx ⊢
        have HX4 := Lib.hid hbx.1
        have HB4 := Lib.hid hbx.2
        clear hW4 hbx g8X g8B g8H g8z0 g8z1 g8z2 g8z3 g8z4 g8y0 g8y1 g8y2 g8y3 g8y4 hx0 hx1 hx2 hx3 hx4
        have HBW4 : Hid (Below W.heap.size W W4) := Lib.hid (HBW.out.trans (HB4.out.mono HBW.out.size))
        go_wp2
        go_loopw [9, 59] (fun v9 v59 wx => ∃ (j : Nat) (wq : World), wq = wx ∧ j ≤ b.length ∧ v9 = .int .i64 (cntA (b.take j) nm : Int) ∧ v59 = .int .i64 (j : Int) ∧ Hid (Below W4.heap.size W4 wq)) (fun _ v59 _ => b.length - (intOf v59).toNat)
        case atStart => exact ⟨0, _, rfl, Nat.zero_le _, rfl, rfl, Lib.hid (Below.refl _ _)⟩
        case round =>
          obtain ⟨j, wx, hwx, hj, rfl, rfl, HBx⟩ := hrel
          subst hwx
          by_cases hjt : j < b.length
          · have HJT := Lib.hid hjt
            have HBWx : Hid (Below W.heap.size W wx) := Lib.hid (HBW4.out.trans (HBx.out.mono HBW4.out.size))
            have HXx := Lib.hid (blk_below HX4.out HBx.out)
            obtain ⟨adE, rfl, hx0, hx1, hx2, hx3⟩ := at_T36 (Kd.C_below HRB.out HBWx.out) (j : Int) (by omega) (by omega)
            have hcs : cntA (b.take (j + 1)) nm = cntA (b.take j) nm + (if ansB nm (rd_T36 b (j : Int)) = true then 1 else 0) := by
              have hrd : rd_T36 b (j : Int) = b[j] := by unfold rd_T36; rw [Int.toNat_natCast, List.getD_eq_getElem?_getD, List.getElem?_eq_getElem hjt]; rfl
              rw [hrd, List.take_succ_eq_append_getElem hjt, cnt_snoc]
              try rfl
            have hcl : cntA (b.take j) nm ≤ 65 := by
              have h1 : cntA (b.take j) nm ≤ (b.take j).length := List.length_filter_le _ _
              have h2 := HN65.out
              rw [List.length_take] at h1
              omega
            obtain ⟨⟨f0, f1, f2, f3⟩, hev⟩ : ∃ ev, ev = rd_T36 b (j : Int) := ⟨_, rfl⟩
            rw [← hev] at hx0 hx1 hx2 hx3 hcs
            rw [Int.toNat_natCast] at hx0 hx1 hx2 hx3
            dsimp only at hx0 hx1 hx2 hx3
            have hw1 : wrap64 ((cntA (b.take j) nm : Int) + 1) = (cntA (b.take j) nm : Int) + 1 := w64 (by omega) (by omega)
            unfold ansB at hcs
            dsimp only at hcs
            obtain ⟨cn, hcn⟩ : ∃ cn, cn = cntA (b.take j) nm := ⟨_, rfl⟩
            rw [← hcn] at hcs hw1 ⊢
            have HCS := Lib.hid hcs
            clear hev hcl hj hjt hcs hcn
            go_upto_region 13 with (first
              | ((with_reducible refine gate_dst (N := 11) rfl ?_); refine box_event ?hg (N := 11) ?hd (cs := #[.int .i64 0, .int .i64 0, .int .i64 0, .int .i64 0]) (t := 36) ?hr ?_; (case hd => rfl); (case hg => rfl); (case hr => first | (go_simp; done) | (go_simp; rfl)); intro ge geh gew hbox hb; have geX := Lib.hid hbox; have geB := Lib.hid hb; have geH := Lib.hid geh; clear geh; have gez0 : gew.cell? ⟨ge, 0, none⟩ = some (.int .i64 0) := (blk_cell hbox 0).trans rfl; have gez1 : gew.cell? ⟨ge, 1, none⟩ = some (.int .i64 0) := (blk_cell hbox 1).trans rfl; have gez2 : gew.cell? ⟨ge, 2, none⟩ = some (.int .i64 0) := (blk_cell hbox 2).trans rfl; have gez3 : gew.cell? ⟨ge, 3, none⟩ = some (.int .i64 0) := (blk_cell hbox 3).trans rfl; have gey0 := blk_frozen hbox 0; have gey1 := blk_frozen hbox 1; have gey2 := blk_frozen hbox 2; have gey3 := blk_frozen hbox 3; clear hbox hb))
            obtain ⟨W5, hW5⟩ : ∃ W5, W5 = (((gew.setCell ⟨ge, 0, none⟩ (.int .i64 f0)).setCell ⟨ge, 1, none⟩ (.int .i64 f1)).setCell ⟨ge, 2, none⟩ (.int .i64 f2)).setCell ⟨ge, 3, none⟩ (.int .i64 f3) := ⟨_, rfl⟩
            have hbx := box4 geX.out geB.out (by rw [geH.out]; exact Nat.le_refl _) (.int .i64 f0) (.int .i64 f1) (.int .i64 f2) (.int .i64 f3)
            rw [← hW5] at hbx ⊢
            have HX5 := Lib.hid hbx.1
            have HB5 := Lib.hid hbx.2
            have HB45 : Hid (Below W4.heap.size W4 W5) := Lib.hid (HBx.out.trans (hbx.2.mono HBx.out.size))
            have u0 : W5.cell? ⟨ge, 0, none⟩ = some (.int .i64 f0) := (blk_cell HX5.out 0).trans rfl
            have u1 : W5.cell? ⟨ge, 1, none⟩ = some (.int .i64 f1) := (blk_cell HX5.out 1).trans rfl
            have u8 : W5.cell? ⟨g8, 0, none⟩ = some (.int .i64 nm) := (blk_cell (blk_below HXx.out HB5.out) 0).trans rfl
            clear hW5 hbx geX geB geH gez0 gez1 gez2 gez3 gey0 gey1 gey2 gey3 hx0 hx1 hx2 hx3
            by_cases e1 : f1 = nm
            · have d1 : (f1 == nm) = true := beq_iff_eq.2 e1
              by_cases e3 : f0 = 3
              · have d3 : (f0 == 3) = true := beq_iff_eq.2 e3
                have hc : cntA (b.take (j + 1)) nm = cn + 1 := by rw [HCS.out, d1, d3]; rfl
                have HC := Lib.hid hc
                clear e1 e3 hc
                go_wp2
                go_roundw
                case rel => exact ⟨j + 1, _, rfl, by have := HJT.out; omega, by rw [HC.out]; go_num, by go_num, HB45⟩
                case measure => have := HJT.out; simp [intOf]; omega
              · have d3 : (f0 == 3) = false := beq_eq_false_iff_ne.2 e3
                by_cases e5 : f0 = 5
                · have d5 : (f0 == 5) = true := beq_iff_eq.2 e5
                  have hc : cntA (b.take (j + 1)) nm = cn + 1 := by rw [HCS.out, d1, d3, d5]; rfl
                  have HC := Lib.hid hc
                  clear e1 e3 e5 hc
                  go_wp2
                  go_roundw
                  case rel => exact ⟨j + 1, _, rfl, by have := HJT.out; omega, by rw [HC.out]; go_num, by go_num, HB45⟩
                  case measure => have := HJT.out; simp [intOf]; omega
                · have d5 : (f0 == 5) = false := beq_eq_false_iff_ne.2 e5
                  have hc : cntA (b.take (j + 1)) nm = cn := by rw [HCS.out, d1, d3, d5]; rfl
                  have HC := Lib.hid hc
                  clear e1 e3 e5 hc
                  go_wp2
                  go_roundw
                  case rel => exact ⟨j + 1, _, rfl, by have := HJT.out; omega, by rw [HC.out], by go_num, HB45⟩
                  case measure => have := HJT.out; simp [intOf]; omega
            · have d1 : (f1 == nm) = false := beq_eq_false_iff_ne.2 e1
              have hc : cntA (b.take (j + 1)) nm = cn := by rw [HCS.out, d1]; rfl
              have HC := Lib.hid hc
              clear e1 hc
              go_wp2
              go_roundw
              case rel => exact ⟨j + 1, _, rfl, by have := HJT.out; omega, by rw [HC.out], by go_num, HB45⟩
              case measure => have := HJT.out; simp [intOf]; omega
          · obtain rfl : j = b.length := by omega
            have hcf : (cntA (b.take b.length) nm : Int) = (os.length : Int) := by rw [List.take_length]; exact HCN.out
            rw [hcf]
            clear hcf hj hjt
            have HBWx : Hid (Below W.heap.size W wx) := Lib.hid (HBW4.out.trans (HBx.out.mono HBW4.out.size))
            have HXx := Lib.hid (blk_below HX4.out HBx.out)
            have HB2x : Hid (Below w2.heap.size w2 wx) := Lib.hid (HB.out.trans ((HB4.out.trans (HBx.out.mono HB4.out.size)).mono HB.out.size))
            have hfind : table_Find.f l nm = some ((i : Int), 0) := by unfold table_Find.f; rw [HIX.out, if_neg (by omega)]
            have hfd := table_Find.calls (some ad) c2 l nm (i : Int) 0 wx (Kd.C_below HS2.out HB2x.out) HC2.out hfind
            have HFD := Lib.hid hfd
            clear hfind hfd
            have u8 : wx.cell? ⟨g8, 0, none⟩ = some (.int .i64 nm) := (blk_cell HXx.out 0).trans rfl
            go_upto_region 17 with (first
              | (go_at_call 23; refine HFD.out.mono ?_; rintro x w3 ⟨rfl, hb3⟩; have HB3 := Lib.hid hb3; clear hb3))
            clear u8
            have HX3 := Lib.hid (blk_below HXx.out HB3.out)
            have HBr3 : Hid (Below wr.heap.size wr w3) := Lib.hid (HB4.out.trans ((HBx.out.trans (HB3.out.mono HBx.out.size)).mono HB4.out.size))
            have HB23 : Hid (Below w2.heap.size w2 w3) := Lib.hid (HB.out.trans (HBr3.out.mono HB.out.size))
            have u1 : w3.cell? ⟨g8, 1, none⟩ = some (.int .i64 fi) := (blk_cell HX3.out 1).trans rfl
            have u2 : w3.cell? ⟨g8, 2, none⟩ = some (.int .i64 la) := (blk_cell HX3.out 2).trans rfl
            have u4 : w3.cell? ⟨g8, 4, none⟩ = some (.slice A4 os.length c4) := (blk_cell HX3.out 4).trans rfl
            have d2 : decide (la < fi) = false := decide_eq_false (by have := HFL.out; omega)
            have hst : wrap64 ((i : Int) + 1) = (i : Int) + 1 := w64 (by omega) (by have := HLL.out; have := HLT.out; omega)
            by_cases hi0 : 0 < i
            · obtain ⟨pd, p1, epd, hpc, hlt1⟩ := HPR.out hi0
              have epd2 : ad = pd := by injection epd
              subst epd2
              have u9 := pw_cell_below HBr3.out hpc
              have d0 : decide (0 < (i : Int)) = true := decide_eq_true (by omega)
              have d1 : decide (fi ≤ p1) = false := decide_eq_false (by omega)
              have w1 : wrap64 ((i : Int) - 1) = (i : Int) - 1 := w64 (by omega) (by have := HLL.out; have := HLT.out; omega)
              have b1 := eq_true (show (0 : Int) ≤ (i : Int) - 1 by omega)
              have b2 := eq_true (show (i : Int) - 1 < (l.length : Int) by have := HLT.out; omega)
              have b3 : decide ((0 : Int) ≤ (i : Int) - 1) = true := decide_eq_true (by omega)
              have b4 : decide ((i : Int) - 1 < (l.length : Int)) = true := decide_eq_true (by have := HLT.out; omega)
              have b5 := HLT.out
              have u10 := u9
              rw [show ((i : Int) - 1).toNat = i - 1 by omega] at u10
              clear hpc hlt1 epd
              go_big_quiet (fail)
              go_wp2
              go_roundw
              case rel => exact ⟨i + 1, by have := HLT.out; omega, by go_num, Lib.hid (pw_below_drewN HB23.out _)⟩
              case measure => have h9 := HLT.out; simp only [ggrows_int, hst]; clear hst; omega
            · have d0 : decide (0 < (i : Int)) = false := decide_eq_false (by omega)
              go_big_quiet (fail)
              go_wp2
              go_roundw
              case rel => exact ⟨i + 1, by have := HLT.out; omega, by go_num, Lib.hid (pw_below_drewN HB23.out _)⟩
              case measure => have h9 := HLT.out; simp only [ggrows_int, hst]; clear hst; omega
      · obtain rfl : i = l.length := by omega
        obtain ⟨m, hmt, hml, hpre⟩ := HH.out.cut l kk HTAB.out HKK.out
        have HBW : Hid (Below W.heap.size W wr) := Lib.hid (HB2.out.trans (HB.out.mono HB2.out.size))
        have hlk : (b.take kk).length = kk := by rw [List.length_take]; have := HKK.out; omega
        have hck : Kd.C k36 wr A0 (b.take kk).length (b.take kk) := Kd.C_take (m := kk) (Kd.C_below HRB.out HBW.out) HKK.out
        have ht2 := table_Table.calls A0 c0 (b.take kk) m 0 wr hck (by rw [hlk]; have := HKK.out; have := HC1.out; omega) hmt (HT.out.below HBW.out)
        rw [hlk] at ht2
        have HT2 := Lib.hid ht2
        have HPRE := Lib.hid hpre
        have HML := Lib.hid hml
        have HAL := Lib.hid HH.out.al
        have r1 : (kk : Int) ≤ (c0 : Int) := by have := HKK.out; omega
        have r2 : (0 : Int) ≤ (kk : Int) := by omega
        have r3 : decide ((l.length : Int) < (m.length : Int)) = false := decide_eq_false (by omega)
        have r4 : decide (l.length < m.length) = false := decide_eq_false (by omega)
        clear hmt hml hpre hlk hck ht2 hi hlt
        go_wp2_with (first
          | (go_at_call 18; refine HT2.out.mono ?_; rintro x w5 ⟨v5, rfl, hs5, hb5⟩; obtain ⟨B5, c5, rfl⟩ := Kd.R_slice (Kd.S_R hs5); have HS5 := Lib.hid (Kd.R_reads' (Kd.S_R hs5)).2.2; have HB5 := Lib.hid hb5; have HBW5 := Lib.hid (HBW.out.trans (hb5.mono HBW.out.size)); clear hs5 hb5)
          | (go_at_call 20; refine (recantlaw06_alive.calls true _ HAL.out (HT.out.below HBW5.out)).mono ?_; rintro x w6 ⟨rfl, hb6⟩; have HB6 := Lib.hid hb6; clear hb6))
        have HBW6 : Hid (Below W.heap.size W w6) := Lib.hid (HBW5.out.trans (HB6.out.mono HBW5.out.size))
        have HB26 : Hid (Below w2.heap.size w2 w6) := Lib.hid (HB.out.trans ((HB5.out.trans (HB6.out.mono HB5.out.size)).mono HB.out.size))
        have hml9 : m.length ≤ 9223372036854775807 := HS5.out.2.1
        have HML9 := Lib.hid hml9
        clear hml9 r1 r2 r3 r4
        go_loopw [147] (fun v147 wx => ∃ (i : Nat) (wq : World), wq = wx ∧ i ≤ m.length ∧ v147 = .int .i64 (i : Int) ∧ Hid (Below w6.heap.size w6 wq)) (fun v147 _ => m.length - (intOf v147).toNat)
        case atStart => exact ⟨0, _, rfl, Nat.zero_le _, rfl, Lib.hid (Below.refl _ _)⟩
        case round =>
          obtain ⟨i, wx, hwx, hi, rfl, HBx⟩ := hrel
          subst hwx
          by_cases hlt : i < m.length
          · have HLT := Lib.hid hlt
            have hlt2 : i < l.length := by have := HML.out; omega
            have HBWx : Hid (Below W.heap.size W wx) := Lib.hid (HBW6.out.trans (HBx.out.mono HBW6.out.size))
            have HB2x : Hid (Below w2.heap.size w2 wx) := Lib.hid (HB26.out.trans (HBx.out.mono HB26.out.size))
            have HB5x : Hid (Below w5.heap.size w5 wx) := Lib.hid (HB6.out.trans (HBx.out.mono HB6.out.size))
            have hpr := HPRE.out i hlt
            obtain ⟨ad, A4, c4, rfl, hx0, hx1, hx2, hx3, hx4, hxc, hxC⟩ := at_T34 (Kd.C_below HS5.out HB5x.out) (i : Int) (by omega) (by omega)
            obtain ⟨bd, A5, c5b, rfl, hy0, hy1, hy2, hy3, hy4, hyc, hyC⟩ := at_T34 (Kd.C_below HS2.out HB2x.out) (i : Int) (by omega) (by omega)
            obtain ⟨hp1, hp2, hp3, hp4, hp5⟩ := hpr
            obtain ⟨⟨nm, fi, la, st, os⟩, ht⟩ : ∃ t, t = rd_T34 m (i : Int) := ⟨_, rfl⟩
            obtain ⟨⟨nm2, fi2, la2, st2, os2⟩, ht2⟩ : ∃ t, t = rd_T34 l (i : Int) := ⟨_, rfl⟩
            rw [← ht] at hx0 hx1 hx2 hx3 hx4 hxc hxC hp1 hp2 hp3 hp4 hp5
            rw [← ht2] at hy0 hy1 hy2 hy3 hy4 hyc hyC hp1 hp2 hp3 hp4 hp5
            dsimp only at hx0 hx1 hx2 hx3 hx4 hxc hxC hp1 hp2 hp3 hp4 hp5 hy0 hy1 hy2 hy3 hy4 hyc hyC
            rw [Int.toNat_natCast] at hx0 hx1 hx2 hx3 hx4 hy0 hy1 hy2 hy3 hy4
            subst hp1 hp2
            have hol : (os2.take os.length).length = os.length := by rw [List.length_take]; omega
            have hoc : ∀ w, Below wx.heap.size wx w → Calls Tryd.prog 24 #[.slice A4 os.length c4, .slice A5 os.length c5b] w fun e w' => e = .returned (.bool true) ∧ Drawn0 w w' := by
              intro w hw
              have hk1 : Kd.C k52 wx A5 (os2.take os.length).length (os2.take os.length) := Kd.C_take (m := os.length) hyC hp4
              have := recantref06_OpsSame.calls k A4 c4 os A5 c5b (os2.take os.length) true w (Kd.C_below hxC hw) hxc (Kd.C_below hk1 hw) (by omega) hp5
              rw [hol] at this
              exact this
            have HOC := Lib.hid hoc
            have HP3 := Lib.hid hp3
            have HP4 := Lib.hid hp4
            have s1 : (os.length : Int) ≤ (c5b : Int) := by omega
            have s2 : (0 : Int) ≤ (os.length : Int) := by omega
            have hlt3 : (i : Int) < (l.length : Int) := by omega
            clear ht ht2 hxc hxC hyc hyC hp3 hp4 hp5 hol hoc hi hlt
            go_upto_region 26 with (first
              | ((with_reducible refine gate_dst (N := 17) rfl ?_); refine box_event ?hg (N := 17) ?hd (cs := #[.int .i64 0, .int .i64 0, .int .i64 0, .int .i64 0, .slice none 0 0]) (t := 34) ?hr ?_; (case hd => rfl); (case hg => rfl); (case hr => first | (go_simp; done) | (go_simp; rfl)); intro ga gah gaw hbox hb; have gaX := Lib.hid hbox; have gaB := Lib.hid hb; have gaH := Lib.hid gah; clear gah; have gaz0 : gaw.cell? ⟨ga, 0, none⟩ = some (.int .i64 0) := (blk_cell hbox 0).trans rfl; have gaz1 : gaw.cell? ⟨ga, 1, none⟩ = some (.int .i64 0) := (blk_cell hbox 1).trans rfl; have gaz2 : gaw.cell? ⟨ga, 2, none⟩ = some (.int .i64 0) := (blk_cell hbox 2).trans rfl; have gaz3 : gaw.cell? ⟨ga, 3, none⟩ = some (.int .i64 0) := (blk_cell hbox 3).trans rfl; have gaz4 : gaw.cell? ⟨ga, 4, none⟩ = some (.slice none 0 0) := (blk_cell hbox 4).trans rfl; have gay0 := blk_frozen hbox 0; have gay1 := blk_frozen hbox 1; have gay2 := blk_frozen hbox 2; have gay3 := blk_frozen hbox 3; have gay4 := blk_frozen hbox 4; clear hbox hb))
            obtain ⟨W7, hW7⟩ : ∃ W7, W7 = ((((gaw.setCell ⟨ga, 0, none⟩ (.int .i64 nm)).setCell ⟨ga, 1, none⟩ (.int .i64 fi)).setCell ⟨ga, 2, none⟩ (.int .i64 la)).setCell ⟨ga, 3, none⟩ (.int .i64 st)).setCell ⟨ga, 4, none⟩ (.slice A4 os.length c4) := ⟨_, rfl⟩
            have hbx := box5 gaX.out gaB.out (by rw [gaH.out]; exact Nat.le_refl _) (.int .i64 nm) (.int .i64 fi) (.int .i64 la) (.int .i64 st) (.slice A4 os.length c4)
            rw [← hW7] at hbx ⊢
            have HX7 := Lib.hid hbx.1
            have HB7 := Lib.hid hbx.2
            have y0 := pw_cell_below HB7.out hy0
            have y1 := pw_cell_below HB7.out hy1
            have y2 := pw_cell_below HB7.out hy2
            have y3 := pw_cell_below HB7.out hy3
            have y4 := pw_cell_below HB7.out hy4
            clear hW7 hbx gaX gaB gaH gaz0 gaz1 gaz2 gaz3 gaz4 gay0 gay1 gay2 gay3 gay4 hx0 hx1 hx2 hx3 hx4 hy0 hy1 hy2 hy3 hy4
            go_upto_region 27 with (first
              | ((with_reducible refine gate_dst (N := 18) rfl ?_); refine box_event ?hg (N := 18) ?hd (cs := #[.int .i64 0, .int .i64 0, .int .i64 0, .int .i64 0, .slice none 0 0]) (t := 34) ?hr ?_; (case hd => rfl); (case hg => rfl); (case hr => first | (go_simp; done) | (go_simp; rfl)); intro gb gbh gbw hbox hb; have gbX := Lib.hid hbox; have gbB := Lib.hid hb; have gbH := Lib.hid gbh; clear gbh; have gbz0 : gbw.cell? ⟨gb, 0, none⟩ = some (.int .i64 0) := (blk_cell hbox 0).trans rfl; have gbz1 : gbw.cell? ⟨gb, 1, none⟩ = some (.int .i64 0) := (blk_cell hbox 1).trans rfl; have gbz2 : gbw.cell? ⟨gb, 2, none⟩ = some (.int .i64 0) := (blk_cell hbox 2).trans rfl; have gbz3 : gbw.cell? ⟨gb, 3, none⟩ = some (.int .i64 0) := (blk_cell hbox 3).trans rfl; have gbz4 : gbw.cell? ⟨gb, 4, none⟩ = some (.slice none 0 0) := (blk_cell hbox 4).trans rfl; have gby0 := blk_frozen hbox 0; have gby1 := blk_frozen hbox 1; have gby2 := blk_frozen hbox 2; have gby3 := blk_frozen hbox 3; have gby4 := blk_frozen hbox 4; clear hbox hb))
            obtain ⟨W8, hW8⟩ : ∃ W8, W8 = ((((gbw.setCell ⟨gb, 0, none⟩ (.int .i64 nm)).setCell ⟨gb, 1, none⟩ (.int .i64 fi)).setCell ⟨gb, 2, none⟩ (.int .i64 la2)).setCell ⟨gb, 3, none⟩ (.int .i64 st2)).setCell ⟨gb, 4, none⟩ (.slice A5 os2.length c5b) := ⟨_, rfl⟩
            have hbx := box5 gbX.out gbB.out (by rw [gbH.out]; exact Nat.le_refl _) (.int .i64 nm) (.int .i64 fi) (.int .i64 la2) (.int .i64 st2) (.slice A5 os2.length c5b)
            rw [← hW8] at hbx ⊢
            have HX8 := Lib.hid hbx.1
            have HB8 := Lib.hid hbx.2
            have HX78 := Lib.hid (blk_below HX7.out HB8.out)
            have HBx8 : Hid (Below wx.heap.size wx W8) := Lib.hid (HB7.out.trans (HB8.out.mono HB7.out.size))
            have HB68 : Hid (Below w6.heap.size w6 W8) := Lib.hid (HBx.out.trans (HBx8.out.mono HBx.out.size))
            have u0 : W8.cell? ⟨ga, 0, none⟩ = some (.int .i64 nm) := (blk_cell HX78.out 0).trans rfl
            have u1 : W8.cell? ⟨ga, 1, none⟩ = some (.int .i64 fi) := (blk_cell HX78.out 1).trans rfl
            have u2 : W8.cell? ⟨ga, 2, none⟩ = some (.int .i64 la) := (blk_cell HX78.out 2).trans rfl
            have u4 : W8.cell? ⟨ga, 4, none⟩ = some (.slice A4 os.length c4) := (blk_cell HX78.out 4).trans rfl
            have t0 : W8.cell? ⟨gb, 0, none⟩ = some (.int .i64 nm) := (blk_cell HX8.out 0).trans rfl
            have t1 : W8.cell? ⟨gb, 1, none⟩ = some (.int .i64 fi) := (blk_cell HX8.out 1).trans rfl
            have t2 : W8.cell? ⟨gb, 2, none⟩ = some (.int .i64 la2) := (blk_cell HX8.out 2).trans rfl
            have t4 : W8.cell? ⟨gb, 4, none⟩ = some (.slice A5 os2.length c5b) := (blk_cell HX8.out 4).trans rfl
            have d2 : decide (la2 < la) = false := decide_eq_false (by have := HP3.out; omega)
            have d4 : decide ((os2.length : Int) < (os.length : Int)) = false := decide_eq_false (by have := HP4.out; omega)
            have d5 : decide (os2.length < os.length) = false := decide_eq_false (by have := HP4.out; omega)
            have d6 := HP4.out
            have hle1 : i + 1 ≤ m.length := by have := HLT.out; omega
            have hc1 : ((i + 1 : Nat) : Int) = (i : Int) + 1 := by omega
            have hst : wrap64 ((i : Int) + 1) = (i : Int) + 1 := w64 (by omega) (by have := HML9.out; have := HLT.out; omega)
            have hca : Value.int .i64 (wrap64 ((i : Int) + 1)) = .int .i64 ((i + 1 : Nat) : Int) := by rw [hst, hc1]
            have HLE := Lib.hid hle1
            have HCA := Lib.hid hca
            clear hle1 hc1 hca
            have hq : ∀ x : Nat, Calls Tryd.prog 24 #[.slice A4 os.length c4, .slice A5 os.length c5b] (W8.drewN x) fun e w'' => e = .returned (.bool true) ∧ ∃ n, w'' = W8.drewN n := by
              intro x
              refine Calls.quiet_of ((HOC.out _ (pw_below_drewN HBx8.out _)).mono ?_)
              rintro e w'' ⟨rfl, ⟨hd⟩⟩
              exact ⟨rfl, hd⟩
            have HQ := Lib.hid hq
            clear hq HOC hW8 hbx gbX gbB gbH gbz0 gbz1 gbz2 gbz3 gbz4 gby0 gby1 gby2 gby3 gby4 y0 y1 y2 y3 y4
            go_big_quiet (exact HQ.out _)
            go_wp2
            go_roundw
            case rel => exact ⟨i + 1, _, rfl, HLE.out, HCA.out, Lib.hid (pw_below_drewN HB68.out _)⟩
            case measure => have h9 := HLT.out; simp only [ggrows_int, hst]; clear hst; omega
          · obtain rfl : i = m.length := by omega
            have HBWx : Hid (Below W.heap.size W wx) := Lib.hid (HBW6.out.trans (HBx.out.mono HBW6.out.size))
            clear hi hlt
            go_wp2
            go_ret
            exact ⟨rfl, HBWx.out⟩
  · have hl0 := HH.out.bad l e HTAB.out he
    subst hl0
    have he1 : (e != 0) = true := bne_iff_ne.2 he
    have he2 : (e == 0) = false := beq_eq_false_iff_ne.2 he
    have HAL := Lib.hid HH.out.al
    clear he
    go_wp2_with (first
      | (go_at_call 18; refine (HTB.out _ (Below.refl _ _)).mono ?_; rintro x w2 ⟨v2, rfl, hs2, hb2⟩; obtain ⟨B2, c2, rfl⟩ := Kd.R_slice (Kd.S_R hs2); have HB2 := Lib.hid hb2; clear hs2 hb2)
      | (go_at_call 20; refine (recantlaw06_alive.calls true _ HAL.out (HT.out.below HB2.out)).mono ?_; rintro x w8 ⟨rfl, hb8⟩; have HB8 := Lib.hid (HB2.out.trans (hb8.mono HB2.out.size)); clear hb8))
    go_ret
    exact ⟨rfl, HB8.out⟩
end Go.Proofs.YtkjkceeopkfniaaDoor.P

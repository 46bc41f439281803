/- legal.own and (legal.memory).with, given: a transaction's operations and a memory of eight values. -/
import Derived.Test.YtkjkceeopkfniaaDoorUNum
import Derived.Test.YtkjkceeopkfniaaDoorP0
import Derived.Lib.Hide
import Derived.WalkSpells
import Derived.Deep.QuietTactic
import Derived.BigQuiet
namespace Go.Proofs.YtkjkceeopkfniaaDoor.P
set_option linter.unusedVariables false
set_option linter.unusedSimpArgs false
open Go Go.RowKit Go.Proofs.YtkjkceeopkfniaaDoorW.PrintWords Go.Proofs.YtkjkceeopkfniaaDoorW.PrintLast Go.Proofs.YtkjkceeopkfniaaDoorW.PrintMore Go.Proofs.YtkjkceeopkfniaaDoor.U

def arrV (m : List Int) : Array Value := (m.map (Value.int .i64)).toArray
theorem arr_at (m : List Int) (i : Nat) (h : i < m.length) : (arrV m)[i]? = some (.int .i64 (m.getD i 0)) := by
  unfold arrV
  simp [List.getD_eq_getElem?_getD, List.getElem?_eq_getElem h]
theorem arr_set (m : List Int) (i : Nat) (x : Int) : (arrV m).setIfInBounds i (.int .i64 x) = arrV (m.set i x) := by
  unfold arrV
  simp
theorem len8 {m : List Int} (h : m.length = 8) : ∃ a b c d e f g i, m = [a, b, c, d, e, f, g, i] := by
  match m, h with
  | [a, b, c, d, e, f, g, i], _ => exact ⟨a, b, c, d, e, f, g, i, rfl⟩
/-- A memory with one operation. -/
def memS (m : List Int) (o : S52) : List Int := if o.f0 = true then m.set o.f1.toNat o.f2 else m
def withM (m : List Int) (ops : List S52) : List Int := ops.foldl memS m
def ownM : List S52 → List Int → Nat
  | [], _ => 0
  | o :: t, m => if o.f0 = true then ownM t (memS m o) + 1 else if m.getD o.f1.toNat 0 = o.f2 then ownM t (memS m o) + 1 else 0
theorem memS_len (m : List Int) (o : S52) : (memS m o).length = m.length := by unfold memS; split <;> simp
theorem withM_len (ops : List S52) : ∀ m : List Int, (withM m ops).length = m.length := by
  induction ops with
  | nil => intro m; rfl
  | cons o t ih => intro m; show (withM (memS m o) t).length = _; rw [ih, memS_len]
theorem mem_info : (Tryd.prog.info? 119).map (·.size) = some 8 := by kernel_rfl
theorem mem_int (x : Int) : intOf (.int .i64 x) = x := rfl
theorem rdOp (l : List S52) (i : Nat) (h : i < l.length) : rd_T52 l (i : Int) = l[i] := by
  unfold rd_T52; rw [Int.toNat_natCast, List.getD_eq_getElem?_getD, List.getElem?_eq_getElem h]; rfl
theorem box3 {W w : World} {g : Nat} {t : TypeId} {a0 a1 a2 : Value} (h : w.heap[g]? = some (.cells #[a0, a1, a2] t (0, 0))) (hb : Below W.heap.size W w) (hg : W.heap.size ≤ g) (x0 x1 x2 : Value) :
    ((((w.setCell ⟨g, 0, none⟩ x0).setCell ⟨g, 1, none⟩ x1).setCell ⟨g, 2, none⟩ x2).heap[g]? = some (.cells #[x0, x1, x2] t (0, 0))) ∧ Below W.heap.size W (((w.setCell ⟨g, 0, none⟩ x0).setCell ⟨g, 1, none⟩ x1).setCell ⟨g, 2, none⟩ x2) := by
  refine ⟨?_, ((hb.setCell (p := ⟨g, 0, none⟩) hg _).setCell (p := ⟨g, 1, none⟩) hg _).setCell (p := ⟨g, 2, none⟩) hg _⟩
  have := blk_set (blk_set (blk_set h 0 x0) 1 x1) 2 x2
  simpa using this
set_option maxHeartbeats 4000000 in
set_option maxRecDepth 100000 in
/-- The place of the first read that is not of what it may. -/
theorem own_run (A : Option Addr) (c : Nat) (ops : List S52) (m : List Int) (W : World) (hr : Kd.C k52 W A ops.length ops) (hm : m.length = 8) (hv : ∀ o ∈ ops, 0 ≤ o.f1 ∧ o.f1 < 8) :
    Calls Tryd.prog 87 #[.slice A ops.length c, .agg (arrV m)] W fun e w' => e = .returned (.int .i64 (ownM ops m : Int)) ∧ Below W.heap.size W w' := by
  have hmax : ops.length ≤ 9223372036854775807 := hr.2.1
  obtain ⟨r, hrr⟩ : ∃ r, ownM ops m = r := ⟨_, rfl⟩
  rw [hrr]
  have HR := Lib.hid hr
  have HV := Lib.hid hv
  have HM := Lib.hid hmax
  obtain ⟨m0, m1, m2, m3, m4, m5, m6, m7, rfl⟩ := len8 hm
  rw [show arrV [m0, m1, m2, m3, m4, m5, m6, m7] = #[.int .i64 m0, .int .i64 m1, .int .i64 m2, .int .i64 m3, .int .i64 m4, .int .i64 m5, .int .i64 m6, .int .i64 m7] from rfl]
  have HRR := Lib.hid hrr
  clear hr hv hmax hm hrr
  go_enter Tryd.func87, Tryd.ntmps87
  go_upto_region 1 with (first
    | ((with_reducible refine gate_dst (N := 3) rfl ?_); refine box_event ?hg (N := 3) ?hd (cs := #[.int .i64 m0, .int .i64 m1, .int .i64 m2, .int .i64 m3, .int .i64 m4, .int .i64 m5, .int .i64 m6, .int .i64 m7]) (t := 119) ?hr ?_; (case hd => rfl); (case hg => rfl); (case hr => first | (go_simp; done) | (go_simp; rfl)); intro g3 hg3 w3 hbox hb; have HX3 := Lib.hid (show w3.heap[g3]? = some (.cells (arrV [m0, m1, m2, m3, m4, m5, m6, m7]) 119 (0, 0)) from hbox); have HB3 := Lib.hid hb; have HG3 := Lib.hid hg3; clear hbox hb hg3))
  go_wp2
  go_loopw [9] (fun v9 wr => ∃ (k : Nat) (mk : List Int) (wq : World), wq = wr ∧ k ≤ ops.length ∧ v9 = .int .i64 (k : Int) ∧ Hid (mk.length = 8) ∧ Hid (r = k + ownM (ops.drop k) mk) ∧ Hid (wq.heap[g3]? = some (.cells (arrV mk) 119 (0, 0))) ∧ Hid (Below W.heap.size W wq)) (fun v9 _ => ops.length - (intOf v9).toNat)
  case atStart => exact ⟨0, [m0, m1, m2, m3, m4, m5, m6, m7], _, rfl, Nat.zero_le _, rfl, Lib.hid rfl, Lib.hid (by rw [List.drop_zero, HRR.out, Nat.zero_add]), HX3, HB3⟩
  case round =>
    obtain ⟨k, mk, wr, hwr, hk, rfl, HL, HI, HX, HB⟩ := hrel
    subst hwr
    clear HRR HX3 HB3
    by_cases hlt : k < ops.length
    · obtain ⟨ad, rfl, hx0, hx1, hx2⟩ := at_T52 (Kd.C_below HR.out HB.out) (k : Int) (by omega) (by omega)
      have hvo := HV.out ops[k] (List.getElem_mem hlt)
      have hI := HI.out
      rw [List.drop_eq_getElem_cons hlt] at hI
      rw [rdOp ops k hlt] at hx0 hx1 hx2
      obtain ⟨⟨f0, f1, f2⟩, ho⟩ : ∃ o, o = ops[k] := ⟨_, rfl⟩
      rw [← ho] at hx0 hx1 hx2 hvo hI
      unfold ownM at hI
      dsimp only at hx0 hx1 hx2 hvo hI
      rw [Int.toNat_natCast] at hx0 hx1 hx2
      obtain ⟨v, hvn⟩ : ∃ v : Nat, f1 = (v : Int) := ⟨f1.toNat, by omega⟩
      subst hvn
      rw [Int.toNat_natCast] at hI
      have hv8 : v < 8 := by omega
      have HI2 := Lib.hid hI
      have HLT := Lib.hid hlt
      have HV8 := Lib.hid hv8
      clear ho hI HI hvo hlt hv8
      go_upto_region 4 with (first
        | ((with_reducible refine gate_dst (N := 6) rfl ?_); refine box_event ?hg (N := 6) ?hd (cs := #[.bool false, .int .i64 0, .int .i64 0]) (t := 52) ?hr ?_; (case hd => rfl); (case hg => rfl); (case hr => first | (go_simp; done) | (go_simp; rfl)); intro g6 g6h g6w hbox hb; have g6X := Lib.hid hbox; have g6B := Lib.hid hb; have g6H := Lib.hid g6h; clear g6h; have g6z0 : g6w.cell? ⟨g6, 0, none⟩ = some (.bool false) := (blk_cell hbox 0).trans rfl; have g6z1 : g6w.cell? ⟨g6, 1, none⟩ = some (.int .i64 0) := (blk_cell hbox 1).trans rfl; have g6z2 : g6w.cell? ⟨g6, 2, none⟩ = some (.int .i64 0) := (blk_cell hbox 2).trans rfl; have g6y0 := blk_frozen hbox 0; have g6y1 := blk_frozen hbox 1; have g6y2 := blk_frozen hbox 2; clear hbox hb))
      obtain ⟨W4, hW4⟩ : ∃ W4, W4 = ((g6w.setCell ⟨g6, 0, none⟩ (.bool f0)).setCell ⟨g6, 1, none⟩ (.int .i64 (v : Int))).setCell ⟨g6, 2, none⟩ (.int .i64 f2) := ⟨_, rfl⟩
      have hbx := box3 g6X.out g6B.out (by rw [g6H.out]; exact Nat.le_refl _) (.bool f0) (.int .i64 (v : Int)) (.int .i64 f2)
      rw [← hW4] at hbx ⊢
      have HX4 := Lib.hid hbx.1
      have HB4 := Lib.hid hbx.2
      have HB5 : Hid (Below W.heap.size W W4) := Lib.hid (HB.out.trans (hbx.2.mono HB.out.size))
      have HA4 := Lib.hid (blk_below HX.out hbx.2)
      have u0 : W4.cell? ⟨g6, 0, none⟩ = some (.bool f0) := (blk_cell HX4.out 0).trans rfl
      have u1 : W4.cell? ⟨g6, 1, none⟩ = some (.int .i64 (v : Int)) := (blk_cell HX4.out 1).trans rfl
      have u2 : W4.cell? ⟨g6, 2, none⟩ = some (.int .i64 f2) := (blk_cell HX4.out 2).trans rfl
      have q0 : W4.cell? ⟨g3, v, none⟩ = some (.int .i64 (mk.getD v 0)) := (blk_cell HA4.out v).trans (arr_at mk v (by have := HL.out; have := HV8.out; omega))
      have q1 : W4.frozen? ⟨g3, v, none⟩ = false := blk_frozen HA4.out v
      have q2 := HV8.out
      have q3 : (v : Int) < 8 := by omega
      have q4 : (0 : Int) ≤ (v : Int) := by omega
      have q5 : decide ((0 : Int) ≤ (v : Int)) = true := decide_eq_true q4
      have q6 : decide ((v : Int) < 8) = true := decide_eq_true q3
      clear hW4 hbx g6X g6B g6H g6z0 g6z1 g6z2 g6y0 g6y1 g6y2 hx0 hx1 hx2
      have hle1 : k + 1 ≤ ops.length := HLT.out
      have hc1 : ((k + 1 : Nat) : Int) = (k : Int) + 1 := by omega
      have hst : wrap64 ((k : Int) + 1) = (k : Int) + 1 := w64 (by omega) (by have := HM.out; omega)
      have hca : Value.int .i64 (wrap64 ((k : Int) + 1)) = .int .i64 ((k + 1 : Nat) : Int) := by rw [hst, hc1]
      have HLE := Lib.hid hle1
      have HCA := Lib.hid hca
      have HST := Lib.hid hst
      clear hle1 hc1 hca hst hk
      obtain ⟨x, hx⟩ : ∃ x, x = mk.getD v 0 := ⟨_, rfl⟩
      rw [← hx] at q0
      have HI3 := HI2.out
      rw [← hx] at HI3
      have HI := Lib.hid HI3
      clear HI3 HI2 hx
      cases f0 with
      | true =>
        have hI2 := HI.out
        rw [if_pos rfl] at hI2
        have HI2 := Lib.hid hI2
        clear hI2
        go_wp2
        go_roundw
        case rel => exact ⟨k + 1, mk.set v f2, _, rfl, HLE.out, HCA.out, Lib.hid (by rw [List.length_set]; exact HL.out), Lib.hid (by rw [HI2.out]; unfold memS; rw [if_pos rfl]; dsimp only; rw [Int.toNat_natCast]; omega), Lib.hid (by rw [← arr_set]; exact blk_set HA4.out v _), Lib.hid (HB5.out.setCell (p := ⟨g3, v, none⟩) (by rw [HG3.out]; exact Nat.le_refl _) _)⟩
        case measure => have h1 := HLE.out; have h2 := HST.out; simp only [mem_int, h2]; clear h2; omega
      | false =>
        have hI2 := HI.out
        rw [if_neg Bool.false_ne_true] at hI2
        by_cases he : x = f2
        · have n0 : (x != f2) = false := bne_eq_false_iff_eq.2 he
          rw [if_pos he] at hI2
          have HI2 := Lib.hid hI2
          clear hI2 he
          go_upto_region 6 with (fail)
          go_big_quiet (fail)
          go_wp2
          go_roundw
          case rel => exact ⟨k + 1, mk, _, rfl, HLE.out, HCA.out, HL, Lib.hid (by rw [HI2.out]; unfold memS; rw [if_neg Bool.false_ne_true]; omega), Lib.hid (by exact blk_below HA4.out (pw_below_drewN (Below.refl _ _) _)), Lib.hid (pw_below_drewN HB5.out _)⟩
          case measure => have h1 := HLE.out; have h2 := HST.out; simp only [mem_int, h2]; clear h2; omega
        · have n0 : (x != f2) = true := bne_iff_ne.2 he
          rw [if_neg he] at hI2
          have HI2 := Lib.hid hI2
          clear hI2 he
          go_upto_region 6 with (fail)
          go_big_quiet (fail)
          go_wp2
          go_ret
          exact ⟨by rw [HI2.out]; rfl, pw_below_drewN HB5.out _⟩
    · obtain rfl : k = ops.length := by omega
      have e1 := HI.out
      rw [List.drop_length] at e1
      have e2 : r = ops.length := e1
      have E2 := Lib.hid e2
      clear e1 e2 HI hlt hk
      go_wp2
      go_ret
      exact ⟨by rw [E2.out]; rfl, HB.out⟩
set_option maxHeartbeats 4000000 in
set_option maxRecDepth 100000 in
/-- A memory with a transaction's writes. -/
theorem with_run (A : Option Addr) (c : Nat) (ops : List S52) (m : List Int) (W : World) (hr : Kd.C k52 W A ops.length ops) (hm : m.length = 8) (hv : ∀ o ∈ ops, 0 ≤ o.f1 ∧ o.f1 < 8) :
    Calls Tryd.prog 92 #[.agg (arrV m), .slice A ops.length c] W fun e w' => e = .returned (.agg (arrV (withM m ops))) ∧ Below W.heap.size W w' := by
  have hmax : ops.length ≤ 9223372036854775807 := hr.2.1
  obtain ⟨r, hrr⟩ : ∃ r, withM m ops = r := ⟨_, rfl⟩
  rw [hrr]
  have HR := Lib.hid hr
  have HV := Lib.hid hv
  have HM := Lib.hid hmax
  obtain ⟨m0, m1, m2, m3, m4, m5, m6, m7, rfl⟩ := len8 hm
  rw [show arrV [m0, m1, m2, m3, m4, m5, m6, m7] = #[.int .i64 m0, .int .i64 m1, .int .i64 m2, .int .i64 m3, .int .i64 m4, .int .i64 m5, .int .i64 m6, .int .i64 m7] from rfl]
  have HRR := Lib.hid hrr
  clear hr hv hmax hm hrr
  go_enter Tryd.func92, Tryd.ntmps92
  go_upto_region 1 with (first
    | ((with_reducible refine gate_dst (N := 2) rfl ?_); refine box_event ?hg (N := 2) ?hd (cs := #[.int .i64 m0, .int .i64 m1, .int .i64 m2, .int .i64 m3, .int .i64 m4, .int .i64 m5, .int .i64 m6, .int .i64 m7]) (t := 119) ?hr ?_; (case hd => rfl); (case hg => rfl); (case hr => first | (go_simp; done) | (go_simp; rfl)); intro g3 hg3 w3 hbox hb; have HX3 := Lib.hid (show w3.heap[g3]? = some (.cells (arrV [m0, m1, m2, m3, m4, m5, m6, m7]) 119 (0, 0)) from hbox); have HB3 := Lib.hid hb; have HG3 := Lib.hid hg3; clear hbox hb hg3)
    | ((with_reducible refine gate_dst (N := 4) rfl ?_); refine box_event ?hg (N := 4) ?hd (cs := #[.int .i64 0, .int .i64 0, .int .i64 0, .int .i64 0, .int .i64 0, .int .i64 0, .int .i64 0, .int .i64 0]) (t := 119) ?hr ?_; (case hd => rfl); (case hg => rfl); (case hr => first | (go_simp; done) | (go_simp; rfl)); intro g4 hg4 w4 hbox hb; have HX4 := Lib.hid (show w4.heap[g4]? = some (.cells (arrV [0, 0, 0, 0, 0, 0, 0, 0]) 119 (0, 0)) from hbox); have HX34 := Lib.hid (blk_below HX3.out hb); have HB34 := Lib.hid (HB3.out.trans (hb.mono HB3.out.size)); have HG4 := Lib.hid (show W.heap.size ≤ g4 ∧ g4 ≠ g3 from by have h1 := HB3.out.size; have h2 := blk_lt HX3.out; rw [hg4]; omega); clear hbox hb hg4))
  go_wp2
  go_loopw [9] (fun v9 wr => ∃ (k : Nat) (mk : List Int) (wq : World), wq = wr ∧ k ≤ ops.length ∧ v9 = .int .i64 (k : Int) ∧ Hid (mk.length = 8) ∧ Hid (r = withM mk (ops.drop k)) ∧ Hid (wq.heap[g3]? = some (.cells (arrV mk) 119 (0, 0))) ∧ Hid (wq.heap[g4]? = some (.cells (arrV [0, 0, 0, 0, 0, 0, 0, 0]) 119 (0, 0))) ∧ Hid (Below W.heap.size W wq)) (fun v9 _ => ops.length - (intOf v9).toNat)
  case atStart => exact ⟨0, [m0, m1, m2, m3, m4, m5, m6, m7], _, rfl, Nat.zero_le _, rfl, Lib.hid rfl, Lib.hid (by rw [List.drop_zero, HRR.out]), HX34, HX4, HB34⟩
  case round =>
    obtain ⟨k, mk, wr, hwr, hk, rfl, HL, HI, HX, HZ, HB⟩ := hrel
    subst hwr
    clear HRR HX3 HB3 HX4 HX34 HB34
    by_cases hlt : k < ops.length
    · obtain ⟨ad, rfl, hx0, hx1, hx2⟩ := at_T52 (Kd.C_below HR.out HB.out) (k : Int) (by omega) (by omega)
      have hvo := HV.out ops[k] (List.getElem_mem hlt)
      have hI := HI.out
      rw [List.drop_eq_getElem_cons hlt] at hI
      rw [rdOp ops k hlt] at hx0 hx1 hx2
      obtain ⟨⟨f0, f1, f2⟩, ho⟩ : ∃ o, o = ops[k] := ⟨_, rfl⟩
      rw [← ho] at hx0 hx1 hx2 hvo hI
      have hI : r = withM (memS mk ⟨f0, f1, f2⟩) (ops.drop (k + 1)) := hI
      dsimp only at hx0 hx1 hx2 hvo
      rw [Int.toNat_natCast] at hx0 hx1 hx2
      obtain ⟨v, hvn⟩ : ∃ v : Nat, f1 = (v : Int) := ⟨f1.toNat, by omega⟩
      subst hvn
      have hv8 : v < 8 := by omega
      have HI2 := Lib.hid hI
      have HLT := Lib.hid hlt
      have HV8 := Lib.hid hv8
      clear ho hI HI hvo hlt hv8
      go_upto_region 4 with (first
        | ((with_reducible refine gate_dst (N := 6) rfl ?_); refine box_event ?hg (N := 6) ?hd (cs := #[.bool false, .int .i64 0, .int .i64 0]) (t := 52) ?hr ?_; (case hd => rfl); (case hg => rfl); (case hr => first | (go_simp; done) | (go_simp; rfl)); intro g6 g6h g6w hbox hb; have g6X := Lib.hid hbox; have g6B := Lib.hid hb; have g6H := Lib.hid g6h; clear g6h; have g6z0 : g6w.cell? ⟨g6, 0, none⟩ = some (.bool false) := (blk_cell hbox 0).trans rfl; have g6z1 : g6w.cell? ⟨g6, 1, none⟩ = some (.int .i64 0) := (blk_cell hbox 1).trans rfl; have g6z2 : g6w.cell? ⟨g6, 2, none⟩ = some (.int .i64 0) := (blk_cell hbox 2).trans rfl; have g6y0 := blk_frozen hbox 0; have g6y1 := blk_frozen hbox 1; have g6y2 := blk_frozen hbox 2; clear hbox hb))
      obtain ⟨W4, hW4⟩ : ∃ W4, W4 = ((g6w.setCell ⟨g6, 0, none⟩ (.bool f0)).setCell ⟨g6, 1, none⟩ (.int .i64 (v : Int))).setCell ⟨g6, 2, none⟩ (.int .i64 f2) := ⟨_, rfl⟩
      have hbx := box3 g6X.out g6B.out (by rw [g6H.out]; exact Nat.le_refl _) (.bool f0) (.int .i64 (v : Int)) (.int .i64 f2)
      rw [← hW4] at hbx ⊢
      have HX4 := Lib.hid hbx.1
      have HB4 := Lib.hid hbx.2
      have HB5 : Hid (Below W.heap.size W W4) := Lib.hid (HB.out.trans (hbx.2.mono HB.out.size))
      have HA4 := Lib.hid (blk_below HX.out hbx.2)
      have HZ4 := Lib.hid (blk_below HZ.out hbx.2)
      have u0 : W4.cell? ⟨g6, 0, none⟩ = some (.bool f0) := (blk_cell HX4.out 0).trans rfl
      have u1 : W4.cell? ⟨g6, 1, none⟩ = some (.int .i64 (v : Int)) := (blk_cell HX4.out 1).trans rfl
      have u2 : W4.cell? ⟨g6, 2, none⟩ = some (.int .i64 f2) := (blk_cell HX4.out 2).trans rfl
      have q0 : W4.cell? ⟨g3, v, none⟩ = some (.int .i64 (mk.getD v 0)) := (blk_cell HA4.out v).trans (arr_at mk v (by have := HL.out; have := HV8.out; omega))
      have q1 : W4.frozen? ⟨g3, v, none⟩ = false := blk_frozen HA4.out v
      have q2 := HV8.out
      have q3 : (v : Int) < 8 := by omega
      have q4 : (0 : Int) ≤ (v : Int) := by omega
      have q5 : decide ((0 : Int) ≤ (v : Int)) = true := decide_eq_true q4
      have q6 : decide ((v : Int) < 8) = true := decide_eq_true q3
      clear hW4 hbx g6X g6B g6H g6z0 g6z1 g6z2 g6y0 g6y1 g6y2 hx0 hx1 hx2
      have hle1 : k + 1 ≤ ops.length := HLT.out
      have hc1 : ((k + 1 : Nat) : Int) = (k : Int) + 1 := by omega
      have hst : wrap64 ((k : Int) + 1) = (k : Int) + 1 := w64 (by omega) (by have := HM.out; omega)
      have hca : Value.int .i64 (wrap64 ((k : Int) + 1)) = .int .i64 ((k + 1 : Nat) : Int) := by rw [hst, hc1]
      have HLE := Lib.hid hle1
      have HCA := Lib.hid hca
      have HST := Lib.hid hst
      clear hle1 hc1 hca hst hk
      cases f0 with
      | true =>
        go_wp2
        go_roundw
        case rel => exact ⟨k + 1, mk.set v f2, _, rfl, HLE.out, HCA.out, Lib.hid (by rw [List.length_set]; exact HL.out), Lib.hid (by rw [HI2.out]; unfold memS; rw [if_pos rfl]; dsimp only; rw [Int.toNat_natCast]), Lib.hid (by rw [← arr_set]; exact blk_set HA4.out v _), Lib.hid (blk_far HZ4.out (p := ⟨g3, v, none⟩) HG4.out.2 _), Lib.hid (HB5.out.setCell (p := ⟨g3, v, none⟩) (by rw [HG3.out]; exact Nat.le_refl _) _)⟩
        case measure => have h1 := HLE.out; have h2 := HST.out; simp only [mem_int, h2]; clear h2; omega
      | false =>
        go_wp2
        go_roundw
        case rel => exact ⟨k + 1, mk, _, rfl, HLE.out, HCA.out, HL, Lib.hid (by rw [HI2.out]; unfold memS; rw [if_neg Bool.false_ne_true]), HA4, HZ4, HB5⟩
        case measure => have h1 := HLE.out; have h2 := HST.out; simp only [mem_int, h2]; clear h2; omega
    · obtain rfl : k = ops.length := by omega
      have e1 := HI.out
      rw [List.drop_length] at e1
      have e2 : r = mk := e1
      subst e2
      clear e1 HI hlt hk
      obtain ⟨a0, a1, a2, a3, a4, a5, a6, a7, hr8⟩ := len8 HL.out
      subst hr8
      have y0 : wr.cell? ⟨g3, 0, none⟩ = some (.int .i64 a0) := (blk_cell HX.out 0).trans rfl
      have z0 : wr.cell? ⟨g4, 0, none⟩ = some (.int .i64 0) := (blk_cell HZ.out 0).trans rfl
      have x0 : wr.frozen? ⟨g4, 0, none⟩ = false := blk_frozen HZ.out 0
      have y1 : wr.cell? ⟨g3, 1, none⟩ = some (.int .i64 a1) := (blk_cell HX.out 1).trans rfl
      have z1 : wr.cell? ⟨g4, 1, none⟩ = some (.int .i64 0) := (blk_cell HZ.out 1).trans rfl
      have x1 : wr.frozen? ⟨g4, 1, none⟩ = false := blk_frozen HZ.out 1
      have y2 : wr.cell? ⟨g3, 2, none⟩ = some (.int .i64 a2) := (blk_cell HX.out 2).trans rfl
      have z2 : wr.cell? ⟨g4, 2, none⟩ = some (.int .i64 0) := (blk_cell HZ.out 2).trans rfl
      have x2 : wr.frozen? ⟨g4, 2, none⟩ = false := blk_frozen HZ.out 2
      have y3 : wr.cell? ⟨g3, 3, none⟩ = some (.int .i64 a3) := (blk_cell HX.out 3).trans rfl
      have z3 : wr.cell? ⟨g4, 3, none⟩ = some (.int .i64 0) := (blk_cell HZ.out 3).trans rfl
      have x3 : wr.frozen? ⟨g4, 3, none⟩ = false := blk_frozen HZ.out 3
      have y4 : wr.cell? ⟨g3, 4, none⟩ = some (.int .i64 a4) := (blk_cell HX.out 4).trans rfl
      have z4 : wr.cell? ⟨g4, 4, none⟩ = some (.int .i64 0) := (blk_cell HZ.out 4).trans rfl
      have x4 : wr.frozen? ⟨g4, 4, none⟩ = false := blk_frozen HZ.out 4
      have y5 : wr.cell? ⟨g3, 5, none⟩ = some (.int .i64 a5) := (blk_cell HX.out 5).trans rfl
      have z5 : wr.cell? ⟨g4, 5, none⟩ = some (.int .i64 0) := (blk_cell HZ.out 5).trans rfl
      have x5 : wr.frozen? ⟨g4, 5, none⟩ = false := blk_frozen HZ.out 5
      have y6 : wr.cell? ⟨g3, 6, none⟩ = some (.int .i64 a6) := (blk_cell HX.out 6).trans rfl
      have z6 : wr.cell? ⟨g4, 6, none⟩ = some (.int .i64 0) := (blk_cell HZ.out 6).trans rfl
      have x6 : wr.frozen? ⟨g4, 6, none⟩ = false := blk_frozen HZ.out 6
      have y7 : wr.cell? ⟨g3, 7, none⟩ = some (.int .i64 a7) := (blk_cell HX.out 7).trans rfl
      have z7 : wr.cell? ⟨g4, 7, none⟩ = some (.int .i64 0) := (blk_cell HZ.out 7).trans rfl
      have x7 : wr.frozen? ⟨g4, 7, none⟩ = false := blk_frozen HZ.out 7
      go_wp2
      have hX9 := (blk_set (blk_set (blk_set (blk_set (blk_set (blk_set (blk_set (blk_set HZ.out 0 (.int .i64 a0)) 1 (.int .i64 a1)) 2 (.int .i64 a2)) 3 (.int .i64 a3)) 4 (.int .i64 a4)) 5 (.int .i64 a5)) 6 (.int .i64 a6)) 7 (.int .i64 a7))
      have hB9 := ((((((((HB.out.setCell (p := ⟨g4, 0, none⟩) HG4.out.1 (.int .i64 a0)).setCell (p := ⟨g4, 1, none⟩) HG4.out.1 (.int .i64 a1)).setCell (p := ⟨g4, 2, none⟩) HG4.out.1 (.int .i64 a2)).setCell (p := ⟨g4, 3, none⟩) HG4.out.1 (.int .i64 a3)).setCell (p := ⟨g4, 4, none⟩) HG4.out.1 (.int .i64 a4)).setCell (p := ⟨g4, 5, none⟩) HG4.out.1 (.int .i64 a5)).setCell (p := ⟨g4, 6, none⟩) HG4.out.1 (.int .i64 a6)).setCell (p := ⟨g4, 7, none⟩) HG4.out.1 (.int .i64 a7))
      obtain ⟨w9, hw9⟩ : ∃ w9, w9 = ((((((((wr.setCell ⟨g4, 0, none⟩ (.int .i64 a0)).setCell ⟨g4, 1, none⟩ (.int .i64 a1)).setCell ⟨g4, 2, none⟩ (.int .i64 a2)).setCell ⟨g4, 3, none⟩ (.int .i64 a3)).setCell ⟨g4, 4, none⟩ (.int .i64 a4)).setCell ⟨g4, 5, none⟩ (.int .i64 a5)).setCell ⟨g4, 6, none⟩ (.int .i64 a6)).setCell ⟨g4, 7, none⟩ (.int .i64 a7)) := ⟨_, rfl⟩
      rw [← hw9] at hX9 hB9 ⊢
      have hX : w9.heap[g4]? = some (.cells (arrV [a0, a1, a2, a3, a4, a5, a6, a7]) 119 (0, 0)) := by
        refine hX9.trans ?_
        simp [arrV]
      refine bodyPost_ret (results_cell_row (p := 4) (ty := 119) rfl _ _ g4 _ _ _ _ rfl hX Tryd.underlying119 rfl mem_info) rfl ⟨rfl, hB9⟩
end Go.Proofs.YtkjkceeopkfniaaDoor.P

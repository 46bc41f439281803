/- strings.SplitSeq at "\n": the iterator's contract. -/
import Derived.Test.YthkpocgbinmeiaaDoorRange
import Derived.Test.YthkpocgbinmeiaaDoorUNum
import Derived.Test.YthkpocgbinmeiaaDoorGCut
import Derived.Shelf.Abstract
import Derived.Shelf.RegionOpen
import Derived.OwnWalkIn
import Derived.TacticsInMore
import Derived.LoopNIn
import Derived.LoopIn
import Derived.Lib.Hide
import Derived.Outline
namespace Go.Proofs.YthkpocgbinmeiaaDoor.P
set_option linter.unusedVariables false
set_option linter.unusedSimpArgs false
open Go Go.RowKit Go.Shelf Go.Proofs.YthkpocgbinmeiaaDoor.Range Go.Proofs.YthkpocgbinmeiaaDoor.U Go.Proofs.YthkpocgbinmeiaaDoorW.PrintWords Go.Proofs.YthkpocgbinmeiaaDoorW.PrintLast Go.Proofs.YthkpocgbinmeiaaDoorW.PrintMore
attribute [local go_sem] Oper.semAt_some wide_fn wide_depth

theorem callByte10 (s : ByteArray) (w : World) : (callFunc 129 #[.string s, .int .u8 10]).run Tryd.prog w = .ok (.value (.int .i64 (Lib.indexByte s.data.toList 10))) w := by
  rw [run_callFunc_extern Tryd.func129 (by kernel_rfl) (by kernel_rfl) (by kernel_rfl) (e := Extern.BytealgIndexByte.indexByte) (by kernel_rfl), Lib.run_indexByteString]
  rfl
theorem index_byte10 (s : ByteArray) (w : World) : Calls Tryd.prog 122 #[.string s, .int .u8 10] w fun e w' => e = .returned (.int .i64 (Lib.indexByte s.data.toList 10)) ∧ w = w' := by
  have hx := callByte10 s w
  go_enter Tryd.func122, Tryd.ntmps122
  go_wp2
  go_ret
  exact ⟨rfl, rfl⟩
theorem index_nl (s : ByteArray) (w : World) : Calls Tryd.prog 112 #[.string s, .string ⟨#[10]⟩] w fun e w' => e = .returned (.int .i64 (Lib.indexByte s.data.toList 10)) ∧ w = w' := by
  cases hs : (([10] : List UInt8) == s.toList) with
  | true =>
    have h1 : s.toList = [10] := by simpa using (beq_iff_eq.mp hs).symm
    have h2 : Lib.indexByte s.data.toList 10 = 0 := by
      have : s.data.toList = s.toList := by rw [Lib.toList_data]
      rw [this, h1]; rfl
    rw [h2]
    clear h1 h2
    go_enter Tryd.func112, Tryd.ntmps112
    go_wp2
    go_ret
    exact ⟨rfl, rfl⟩
  | false =>
    go_enter Tryd.func112, Tryd.ntmps112
    go_wp2_with (go_at_call 122; refine (index_byte10 _ _).mono ?_; rintro e w' ⟨rfl, rfl⟩)
    go_ret
    exact ⟨rfl, rfl⟩
theorem strings_index_nl (s : ByteArray) (w : World) : Calls Tryd.prog 108 #[.string s, .string ⟨#[10]⟩] w fun e w' => e = .returned (.int .i64 (Lib.indexByte s.data.toList 10)) ∧ w = w' := by
  go_enter Tryd.func108, Tryd.ntmps108
  go_wp2_with (go_at_call 112; refine (index_nl _ _).mono ?_; rintro e w' ⟨rfl, rfl⟩)
  go_ret
  exact ⟨rfl, rfl⟩
/-- A text's rows: parted at the bytes 10. -/
def rowsS (s : ByteArray) : List ByteArray :=
  if h : 0 ≤ Lib.indexByte s.data.toList 10 then s.extract 0 (Lib.indexByte s.data.toList 10).toNat :: rowsS (s.extract ((Lib.indexByte s.data.toList 10).toNat + 1) s.size) else [s]
termination_by s.size
decreasing_by
  have := indexByte_lt s.data.toList 10 h
  rw [← Lib.size_eq] at this
  simp only [ByteArray.size_extract]
  omega
def lenOf (W : World) (B : Nat) : Nat := match W.cell? ⟨B, 0, none⟩ with | some (.string s) => s.size | _ => 0
theorem lenOf_eq {W : World} {B t : Nat} {s : ByteArray} (h : Boxed W B t (.string s)) : lenOf W B = s.size := by unfold lenOf; rw [h.cell]
/-- The iterator's own boxes. -/
def Pv3 (B : Nat) (r : Nat) : Prop := r = B ∨ r = B + 1 ∨ r = B + 2
theorem split1 (l : Nat) (B n0 : Nat) (hB0 : n0 ≤ B) (J Jx : List ByteArray → World → Prop) (W : World) (hJ : AbI (Pv3 B) W.heap.size J) (s : ByteArray) (hs : s.size ≤ 1000000)
    (hY : ∀ pre x W1, pre ++ [x] <+: rowsS s → J pre W1 → YieldAt Fence.wide 0 Tryd.prog l #[.string x] W1 fun e W' =>
      (e = .returned (.bool true) ∧ J (pre ++ [x]) W' ∧ Kp (Pv3 B) n0 W1 W') ∨ (e = .returned (.bool false) ∧ Jx (pre ++ [x]) W'))
    (hb : Boxed W B 9 (.string s)) (hb1 : Boxed W (B + 1) 9 (.string ⟨#[10]⟩)) (hb2 : Boxed W (B + 2) 3 (.int .i64 0)) (h0 : J [] W) :
    CallsIn Fence.wide 0 Tryd.prog 106 #[.func (.yield l) #[] #[], .pointer (some ⟨B + 1, 0, none⟩), .pointer (some ⟨B, 0, none⟩), .pointer (some ⟨B + 2, 0, none⟩)] W fun e W' => (∃ v, e = .returned v) ∧ (J (rowsS s) W' ∨ ∃ pre, pre <+: rowsS s ∧ Jx pre W') := by
  have c1 := hb1.cell
  refine callsIn_of_wp Tryd.func106 rfl trivial ?_ rfl
  simp only [Tryd.ntmps106, List.size_toArray, List.length_cons, List.length_nil, Nat.reduceAdd, Nat.reduceSub, Array.replicate_succ, Array.replicate_zero, List.push_toArray, List.append_toArray, List.nil_append, List.cons_append]
  gi_wp2
  gi_loopw [7, 8] (fun _ _ wr => ∃ (pre : List ByteArray) (x : ByteArray), rowsS s = pre ++ rowsS x ∧ x.size ≤ 1000000 ∧ Boxed wr B 9 (.string x) ∧ Boxed wr (B + 1) 9 (.string ⟨#[10]⟩) ∧ Boxed wr (B + 2) 3 (.int .i64 0) ∧ J pre wr)
    (fun _ _ wr => lenOf wr B)
  case atStart => exact ⟨[], s, rfl, hs, hb, hb1, hb2, h0⟩
  case round =>
    obtain ⟨pre, x, hx, hxs, hbx, hbx1, hbx2, hJs⟩ := hrel
    clear c1
    have c0 := hbx.cell
    have c1 := hbx1.cell
    have c2 := hbx2.cell
    have f0 := hbx.frozen
    have hIX : ∀ W, Hid (CallsIn Fence.wide 0 Tryd.prog 108 #[.string x, .string ⟨#[10]⟩] W fun e w' => e = .returned (.int .i64 (Lib.indexByte x.data.toList 10)) ∧ W = w') := fun W => Lib.hid (callsIn_wide.2 (strings_index_nl x W))
    by_cases hi : 0 ≤ Lib.indexByte x.data.toList 10
    · have hrow : rowsS x = x.extract 0 (Lib.indexByte x.data.toList 10).toNat :: rowsS (x.extract ((Lib.indexByte x.data.toList 10).toNat + 1) x.size) := by conv => lhs; rw [rowsS, dif_pos hi]
      have hlt := indexByte_lt x.data.toList 10 hi
      rw [← Lib.size_eq] at hlt
      obtain ⟨i, hie⟩ := Int.eq_ofNat_of_zero_le hi
      rw [hie] at hrow hlt hIX
      rw [Int.toNat_natCast] at hrow
      obtain ⟨fr, hfr⟩ : ∃ fr, fr = x.extract 0 i := ⟨_, rfl⟩
      obtain ⟨rs, hrs⟩ : ∃ rs, rs = x.extract (i + 1) x.size := ⟨_, rfl⟩
      have hrz : rs.size = x.size - (i + 1) := by rw [hrs]; simp
      have hrr : rs.size < x.size := by omega
      rw [← hfr, ← hrs] at hrow
      obtain ⟨fn, tmps, assign, body, hy, hR⟩ := hY pre fr wr (by rw [hx, hrow]; exact ⟨rowsS rs, by simp⟩) hJs
      rw [hfr] at hy
      have HX := Lib.hid hx
      have HRW := Lib.hid hrow
      have HFR := Lib.hid hfr
      have HRS := Lib.hid hrs
      have HRR := Lib.hid hrr
      have k1 : (i : Int) < x.size := by omega
      have k2 : (i : Int) ≤ x.size := by omega
      clear hx hrow hY hi hie hfr hrs hrz hrr
      gi_wp2_with (gi_at_call 108; refine (hIX _).out.mono ?_; rintro e w' ⟨rfl, rfl⟩)
      refine hR.mono ?_
      rintro e W3 (⟨rfl, hJ3, hk3⟩ | ⟨rfl, hJx3⟩)
      · have hb3 : Boxed W3 B 9 (.string x) := (hk3.priv B (.inl rfl)).trans hbx
        have hb4 : Boxed W3 (B + 1) 9 (.string ⟨#[10]⟩) := (hk3.priv (B + 1) (.inr (.inl rfl))).trans hbx1
        have hb5 : Boxed W3 (B + 2) 3 (.int .i64 0) := (hk3.priv (B + 2) (.inr (.inr rfl))).trans hbx2
        have d0 := hb3.cell
        have d1 := hb4.cell
        have g0 := hb3.frozen
        gi_wp2
        go_roundw
        case rel => exact ⟨pre ++ [fr], rs, by rw [HX.out, HRW.out]; simp, by have := HRR.out; omega, by rw [HRS.out]; exact hb3.set _, hb4.other (by omega) _, hb5.other (by omega) _, hJ.2 _ _ B _ (.inl rfl) hJ3⟩
        case measure => rw [lenOf_eq hbx, lenOf_eq (hb3.set _)]; have := HRR.out; rw [HRS.out] at this; exact this
      · gi_wp2
        refine bodyPost_ret (results_none rfl _ _ _) rfl ?_
        exact ⟨⟨_, rfl⟩, .inr ⟨_, by rw [HX.out, HRW.out]; exact ⟨rowsS rs, by simp⟩, hJx3⟩⟩
    · have hrow : rowsS x = [x] := by rw [rowsS, dif_neg hi]
      have hd : decide (Lib.indexByte x.data.toList 10 < 0) = true := decide_eq_true (by omega)
      obtain ⟨fn, tmps, assign, body, hy, hR⟩ := hY pre x wr (by rw [hx, hrow]; exact List.prefix_refl _) hJs
      have HX := Lib.hid hx
      have HRW := Lib.hid hrow
      clear hx hrow hY hi
      gi_wp2_with (gi_at_call 108; refine (hIX _).out.mono ?_; rintro e w' ⟨rfl, rfl⟩)
      refine hR.mono ?_
      rintro e W3 (⟨rfl, hJ3, hk3⟩ | ⟨rfl, hJx3⟩)
      · gi_wp2
        first | go_end0 | ((try simp only [Exit.inBlock, Exit.then]); refine bodyPost_ret (results_none rfl _ _ _) rfl ?_)
        exact ⟨⟨_, rfl⟩, .inl (by rw [HX.out, HRW.out]; exact hJ3)⟩
      · gi_wp2
        first | go_end0 | ((try simp only [Exit.inBlock, Exit.then]); refine bodyPost_ret (results_none rfl _ _ _) rfl ?_)
        exact ⟨⟨_, rfl⟩, .inr ⟨_, by rw [HX.out, HRW.out]; exact List.prefix_refl _, hJx3⟩⟩
/-- The iterator's contract. -/
theorem split_seq (w : World) (B n0 : Nat) (hB0 : n0 ≤ B) (s : ByteArray) (hs : s.size ≤ 1000000) (hb : Boxed w B 9 (.string s)) (hb1 : Boxed w (B + 1) 9 (.string ⟨#[10]⟩)) (hb2 : Boxed w (B + 2) 3 (.int .i64 0)) :
    Seq Tryd.prog 106 #[.pointer (some ⟨B + 1, 0, none⟩), .pointer (some ⟨B, 0, none⟩), .pointer (some ⟨B + 2, 0, none⟩)] (fun x : ByteArray => #[.string x]) (Pv3 B) n0 (rowsS s) w :=
  fun l J Jx W hW hJ _ hY h0 => split1 l B n0 hB0 J Jx W hJ s hs hY ((hW.block B hb.lt).trans hb) ((hW.block (B + 1) hb1.lt).trans hb1) ((hW.block (B + 2) hb2.lt).trans hb2) h0
def boxes3 (w : World) (s : ByteArray) : World := ((w.alloc (.cells #[.string s] 9)).alloc (.cells #[.string ⟨#[10]⟩] 9)).alloc (.cells #[.int .i64 0] 3)
theorem splitSeq_in (s : ByteArray) (w : World) : Calls Tryd.prog 86 #[.string s, .string ⟨#[10]⟩, .int .i64 0] w fun e w' => e = .returned (.func (.func 106) #[] #[.pointer (some ⟨w.heap.size + 1, 0, none⟩), .pointer (some ⟨w.heap.size, 0, none⟩), .pointer (some ⟨w.heap.size + 2, 0, none⟩)]) ∧ w' = boxes3 w s := by
  go_enter Tryd.func86, Tryd.ntmps86
  go_wp2
  go_ret
  exact ⟨by simp, rfl⟩
theorem SplitSeq_run (s : ByteArray) (w : World) : Calls Tryd.prog 60 #[.string s, .string ⟨#[10]⟩] w fun e w' => e = .returned (.func (.func 106) #[] #[.pointer (some ⟨w.heap.size + 1, 0, none⟩), .pointer (some ⟨w.heap.size, 0, none⟩), .pointer (some ⟨w.heap.size + 2, 0, none⟩)]) ∧ w' = boxes3 w s := by
  go_enter Tryd.func60, Tryd.ntmps60
  go_wp2_with (go_at_call 86; refine (splitSeq_in _ _).mono ?_; rintro e w' ⟨rfl, rfl⟩)
  go_ret
  exact ⟨rfl, rfl⟩
theorem boxes3_at (w : World) (s : ByteArray) : Boxed (boxes3 w s) w.heap.size 9 (.string s) ∧ Boxed (boxes3 w s) (w.heap.size + 1) 9 (.string ⟨#[10]⟩) ∧ Boxed (boxes3 w s) (w.heap.size + 2) 3 (.int .i64 0) ∧ (boxes3 w s).heap.size = w.heap.size + 3 ∧ Below w.heap.size w (boxes3 w s) := by
  have b0 := Boxed.new w 9 (.string s)
  have b1 := Boxed.new (w.alloc (.cells #[.string s] 9)) 9 (.string ⟨#[10]⟩)
  have b2 := Boxed.new ((w.alloc (.cells #[.string s] 9)).alloc (.cells #[.string ⟨#[10]⟩] 9)) 3 (.int .i64 0)
  simp only [World.size_alloc] at b1 b2
  refine ⟨(b0.alloc _).alloc _, b1.alloc _, b2, by unfold boxes3; simp [World.size_alloc], ?_⟩
  exact (((Below.refl _ w).alloc (Nat.le_refl _) _).alloc (by simp) _).alloc (by simp [World.size_alloc]; omega) _
end Go.Proofs.YthkpocgbinmeiaaDoor.P

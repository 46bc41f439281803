/- table.Table, given: the transactions of events; it asks that the table of kinds lies in the world. -/
import Derived.Test.YtkjkceeopkfniaaDoorGTab1
import Derived.Deep.DeepCutAuto
import Derived.Deep.RegionHeld3
namespace Go.Proofs.YtkjkceeopkfniaaDoor.P
set_option linter.unusedVariables false
set_option linter.unusedSimpArgs false
open Go Go.RowKit Go.Proofs.YtkjkceeopkfniaaDoorW.PrintWords Go.Proofs.YtkjkceeopkfniaaDoorW.PrintLast Go.Proofs.YtkjkceeopkfniaaDoorW.PrintMore Go.Proofs.YtkjkceeopkfniaaDoor.U

theorem infoPt : (Tryd.prog.info? 102).map (fun i => (i.zero, i.size, i.bytes)) = some (some (.pointer none), 1, 8) := by kernel_rfl
theorem infoTx : (Tryd.prog.info? 34).map (fun i => (i.zero, i.size, i.bytes)) = some (some (.agg #[(.int .i64 0), (.int .i64 0), (.int .i64 0), (.int .i64 0), (.slice none 0 0)]), 5, 56) := by kernel_rfl
def txnK (k : KP) : S34 := ⟨k.name, k.first, k.last, k.st, k.ops⟩
def tabT (l : List S36) : List S34 := (tabK 0 l []).map txnK
def table_Table.f (l : List S36) : Option (List S34 × Int) := some (if rightsB l = true then (if (runI noF l : Int) < l.length then ([], 6) else (tabT l, 0)) else ([], 1))
theorem rights_len {l : List S36} (h : rightsB l = true) : l.length ≤ 60 := by
  unfold rightsB at h
  simp only [Bool.and_eq_true, decide_eq_true_eq] at h
  exact h.1
theorem at_P {w : World} {A : Option Addr} {n : Nat} {xs : List Nat} (h : Kd.C kP w A n xs) (i : Int) (h0 : 0 ≤ i) (h1 : i < n) : ∃ ad, A = some ad ∧ w.cell? (ad.add i.toNat) = some (VP (xs.getD i.toNat 0)) := by
  obtain ⟨ad, c, e, _, hK, hc⟩ := Kd.C_get h 0 i h0 h1
  have hK : c = [VP (xs.getD i.toNat 0)] := hK
  refine ⟨ad, e, ?_⟩
  have := hc 0 (VP (xs.getD i.toNat 0)) (by rw [hK]; rfl)
  have hsz : kP.sz = 1 := rfl
  rw [hsz, Nat.mul_one, Nat.add_zero] at this
  exact this
theorem takeK_ops (i : Int) (e : S36) (k : KP) : (takeK i e k).ops.length ≤ k.ops.length + 1 := by
  unfold takeK opsF
  dsimp only
  split
  · simp
  · split
    · simp
    · omega
theorem upd_ops (i : Int) (e : S36) (k : KP) : (updK i e k).ops.length ≤ k.ops.length + 1 := by
  unfold updK
  split
  · exact takeK_ops i e k
  · omega
theorem updL_len {i : Int} {e : S36} {L : List (Nat × KP)} {n : Nat} (h : L.length ≤ n ∧ ∀ p ∈ L, p.2.ops.length ≤ n) : (updL i e L).length ≤ n ∧ ∀ p ∈ updL i e L, p.2.ops.length ≤ n + 1 := by
  refine ⟨by unfold updL; rw [List.length_map]; exact h.1, fun p hp => ?_⟩
  obtain ⟨q, hq, rfl⟩ := List.mem_map.1 hp
  have h1 := upd_ops i e q.2
  have h2 := h.2 q hq
  dsimp only
  omega
theorem hasN_some {L : List (Nat × KP)} {n : Int} {b : Nat} (h : findB L n = some b) : hasN (L.map (·.2)) n = true := by
  cases hh : hasN (L.map (·.2)) n with
  | true => rfl
  | false => rw [(findB_none L n).2 hh] at h; cases h
/-- The keepers that come behind are others. -/
def okJ (vo : Nat → Value) (L : List (Nat × KP)) (j : Nat) : Nat → Prop := fun k => ∀ p ∈ L.drop j, (vo p.1).ownBlock ≠ some k
set_option maxHeartbeats 8000000 in
set_option maxRecDepth 100000 in
theorem table_main (A0 : Option Addr) (c0 : Nat) (l : List S36) (W : World) (hr : Kd.C k36 W A0 l.length l) (hc0 : l.length ≤ c0) (hT : KTab W) (hlen : l.length ≤ 60) (hck : proper_Check.f l = some ((l.length : Int), 0)) :
    Calls Tryd.prog 18 #[.slice A0 l.length c0] W fun e w' => ∃ v0_ : Value, e = .returned (.tuple #[v0_, .int .i64 0]) ∧ Kd.S k34 34 w' W.heap.size (fun _ => True) v0_ (tabT l) ∧ Below W.heap.size W w' := by
  have hchk := proper_Check.calls A0 c0 l (l.length : Int) 0 W hr hc0 hck hT
  have HE := Lib.hid hr
  have HCK := Lib.hid hchk
  have HLN := Lib.hid hlen
  have hmax : l.length ≤ 9223372036854775807 := hr.2.1
  have hmm := @run_makeMap Tryd.prog
  obtain ⟨R, hR⟩ : ∃ R, R = tabK 0 l [] := ⟨_, rfl⟩
  have hRT : tabT l = R.map txnK := by unfold tabT; rw [← hR]
  rw [hRT]
  have HR := Lib.hid hR
  clear hr hT hck hchk hR hRT hc0 hlen
  go_enter Tryd.func18, Tryd.ntmps18
  go_wp2_with (first
    | (go_at_call 56; refine HCK.out.mono ?_; rintro x w1 ⟨rfl, hb⟩; have HB1 := Lib.hid hb; clear hb))
  have hb2 : Below w1.heap.size w1 (w1.alloc (.map #[] 0)) := (Below.refl _ _).alloc (Nat.le_refl _) _
  have HB0 : Hid (Below W.heap.size W (w1.alloc (.map #[] 0))) := Lib.hid (HB1.out.trans (hb2.mono HB1.out.size))
  have HT0 : Hid (TSt W.heap.size (w1.alloc (.map #[] 0)) w1.heap.size (.slice none 0 0) (fun _ => .slice none 0 0) []) := Lib.hid
    ⟨HB1.out.size, MapIs.new VP w1, Kd.R_nil _ _ _ _ _, (fun _ h => by cases h), (fun _ h => by cases h), (fun _ h => by cases h), (fun _ h => by cases h), (fun _ h => by cases h), (fun _ h => by cases h), (fun _ h => by cases h), List.nodup_nil⟩
  generalize w1.alloc (.map #[] 0) = w2 at *
  generalize hbM : w1.heap.size = bM at *
  clear hb2 hbM HB1 hmm HCK
  go_loopw [7, 25] (fun va v25 wr => ∃ (i : Nat) (L : List (Nat × KP)) (vo : Nat → Value) (v7 : Value), v7 = va ∧ i ≤ l.length ∧ v25 = .int .i64 (i : Int) ∧ Hid (TSt W.heap.size wr bM v7 vo L) ∧ Hid (Below W.heap.size W wr) ∧ Hid (R = tabK i (l.drop i) (L.map (·.2))) ∧ Hid (L.length ≤ i ∧ ∀ p ∈ L, p.2.ops.length ≤ i)) (fun v7 v25 _ => l.length - (intOf v25).toNat)
  case atStart => exact ⟨0, [], fun _ => .slice none 0 0, .slice none 0 0, rfl, Nat.zero_le _, rfl, HT0, HB0, Lib.hid (by rw [HR.out, List.drop_zero]; rfl), Lib.hid ⟨Nat.le_refl _, fun _ h => by cases h⟩⟩
  case round =>
    obtain ⟨i, L, vo, v7, hv7, hi, rfl, HT, HBW, HI, HLL⟩ := hrel
    subst hv7
    clear HT0 HB0
    by_cases hlt : i < l.length
    · obtain ⟨adE, rfl, hx0, hx1, hx2, hx3⟩ := at_T36 (Kd.C_below HE.out HBW.out) (i : Int) (by omega) (by omega)
      have hd := drop_rd l i hlt
      obtain ⟨ev, hev⟩ : ∃ ev, ev = rd_T36 l (i : Int) := ⟨_, rfl⟩
      rw [← hev] at hx0 hx1 hx2 hx3 hd
      rw [Int.toNat_natCast] at hx0 hx1 hx2 hx3
      have hI2 := HI.out
      rw [hd] at hI2
      unfold tabK stepK at hI2
      obtain ⟨f0, f1, f2, f3⟩ := ev
      dsimp only at hx0 hx1 hx2 hx3 hI2
      have HI2 := Lib.hid hI2
      clear hI2 hd hev HI
      go_upto_region 9 with (first
        | ((with_reducible refine gate_dst (N := 9) rfl ?_); refine box_event ?hg (N := 9) ?hd (cs := #[.int .i64 0, .int .i64 0, .int .i64 0, .int .i64 0]) (t := 36) ?hr ?_; (case hd => rfl); (case hg => rfl); (case hr => first | (go_simp; done) | (go_simp; rfl)); intro g9 hg9 w4 hbox hb; have HX7 := Lib.hid hbox; have HB4 := Lib.hid hb; have HG9 := Lib.hid hg9; have z0 : w4.cell? ⟨g9, 0, none⟩ = some (.int .i64 0) := (blk_cell hbox 0).trans rfl; have z1 : w4.cell? ⟨g9, 1, none⟩ = some (.int .i64 0) := (blk_cell hbox 1).trans rfl; have z2 : w4.cell? ⟨g9, 2, none⟩ = some (.int .i64 0) := (blk_cell hbox 2).trans rfl; have z3 : w4.cell? ⟨g9, 3, none⟩ = some (.int .i64 0) := (blk_cell hbox 3).trans rfl; have y0 := blk_frozen hbox 0; have y1 := blk_frozen hbox 1; have y2 := blk_frozen hbox 2; have y3 := blk_frozen hbox 3; clear hbox hb hg9))
      obtain ⟨W5, hW5⟩ : ∃ W5, W5 = (((w4.setCell ⟨g9, 0, none⟩ (.int .i64 f0)).setCell ⟨g9, 1, none⟩ (.int .i64 f1)).setCell ⟨g9, 2, none⟩ (.int .i64 f2)).setCell ⟨g9, 3, none⟩ (.int .i64 f3) := ⟨_, rfl⟩
      have HX5 : Hid (W5.heap[g9]? = some (.cells #[.int .i64 f0, .int .i64 f1, .int .i64 f2, .int .i64 f3] 36 (0, 0))) := Lib.hid (by
        rw [hW5]
        have := blk_set (blk_set (blk_set (blk_set HX7.out 0 (.int .i64 f0)) 1 (.int .i64 f1)) 2 (.int .i64 f2)) 3 (.int .i64 f3)
        simpa using this)
      have HB5 : Hid (Below wr.heap.size wr W5) := Lib.hid (by
        have hle : wr.heap.size ≤ g9 := by rw [HG9.out]; exact Nat.le_refl _
        rw [hW5]
        exact (((HB4.out.setCell (p := ⟨g9, 0, none⟩) hle _).setCell (p := ⟨g9, 1, none⟩) hle _).setCell (p := ⟨g9, 2, none⟩) hle _).setCell (p := ⟨g9, 3, none⟩) hle _)
      rw [← hW5]
      have HT5 : Hid (TSt W.heap.size W5 bM v7 vo L) := Lib.hid (HT.out.below HB5.out)
      have HBW5 : Hid (Below W.heap.size W W5) := Lib.hid (HBW.out.trans (HB5.out.mono HBW.out.size))
      have u0 : W5.cell? ⟨g9, 0, none⟩ = some (.int .i64 f0) := (blk_cell HX5.out 0).trans rfl
      have u1 : W5.cell? ⟨g9, 1, none⟩ = some (.int .i64 f1) := (blk_cell HX5.out 1).trans rfl
      have u2 : W5.cell? ⟨g9, 2, none⟩ = some (.int .i64 f2) := (blk_cell HX5.out 2).trans rfl
      have u3 : W5.cell? ⟨g9, 3, none⟩ = some (.int .i64 f3) := (blk_cell HX5.out 3).trans rfl
      have l1 := HT5.out.map.look (P := Tryd.prog) Tryd.underlying100 Tryd.underlying3 Tryd.zeroValue102 f1 false
      rw [if_neg Bool.false_ne_true] at l1
      clear hW5 HX7 HB4 z0 z1 z2 z3 y0 y1 y2 y3 hx0 hx1 hx2 hx3 HT HG9 HB5
      cases hf : findB L f1 with
      | some b =>
        rw [hf] at l1
        replace l1 : (Instr.lookup 100 (.map (some bM)) (.int .i64 f1) false).run Tryd.prog W5 = .ok (.pointer (some ⟨b, 0, none⟩)) W5 := l1
        obtain ⟨k, hmem, hkn⟩ := findB_some hf
        obtain ⟨Ak, ck, hvk⟩ := HT5.out.sl _ hmem
        have hkb := HT5.out.kb _ hmem
        have hks := HT5.out.ks _ hmem
        have hge := HT5.out.ge _ hmem
        have hol := HLL.out.2 _ hmem
        dsimp only at hvk hkb hks hge hol
        have HVK := Lib.hid hvk
        rw [hvk] at hkb hks
        have HTK := Lib.hid (take_run (i : Int) ⟨f0, f1, f2, f3⟩ hkb hks hge (by have := HLN.out; omega))
        have HMEM := Lib.hid hmem
        have HKN := Lib.hid hkn
        have HF := Lib.hid hf
        clear hmem hvk hkb hks hge hol hkn hf
        go_wp2_with (first
          | (go_at_call 72; refine HTK.out.mono ?_; rintro x w6 ⟨rfl, hres⟩; have HRES := Lib.hid hres; clear hres))
        obtain ⟨vo', hT6⟩ := HT5.out.take HMEM.out (i : Int) ⟨f0, f1, f2, f3⟩ HKN.out (by rw [HVK.out]; exact HRES.out)
        have HT6 := Lib.hid hT6
        clear hT6
        go_roundw
        case rel =>
          refine ⟨i + 1, updL (i : Int) ⟨f0, f1, f2, f3⟩ L, vo', v7, rfl, by omega, by go_num, HT6, Lib.hid (HBW5.out.trans HRES.out.below), Lib.hid ?_, Lib.hid ?_⟩
          · have := HI2.out
            unfold insK at this
            rw [if_pos (hasN_some HF.out)] at this
            rw [this, updL_snd]
          · have h1 := updL_len (i := (i : Int)) (e := ⟨f0, f1, f2, f3⟩) HLL.out
            exact ⟨by omega, h1.2⟩
        case measure => simp [intOf]; omega
      | none =>
        rw [hf] at l1
        replace l1 : (Instr.lookup 100 (.map (some bM)) (.int .i64 f1) false).run Tryd.prog W5 = .ok (.pointer none) W5 := l1
        have HNO : Hid (findB L (newK (i : Int) f1).name = none) := Lib.hid hf
        clear hf
        go_upto_region 12 with (first
          | ((with_reducible refine gate_dst (N := 41) rfl ?_); refine box_event ?hg (N := 41) ?hd (cs := #[.int .i64 f1, .int .i64 (i : Int), .int .i64 0, .int .i64 0, .slice none 0 0, .int .i64 0, .int .i64 0, .int .i64 0, .int .i64 0]) (t := 104) ?hr ?_; (case hd => rfl); (case hg => rfl); (case hr => first | (go_simp; done) | (go_simp; rfl)); intro b hgb w6 hbox hb; have HKB6 := Lib.hid hbox; have HB6 := Lib.hid hb; have HGB := Lib.hid hgb; clear hbox hb hgb))
        have HT6 : Hid (TSt W.heap.size w6 bM v7 vo L) := Lib.hid (HT5.out.below HB6.out)
        have HX6 := Lib.hid (blk_below HX5.out HB6.out)
        have HBW6 : Hid (Below W.heap.size W w6) := Lib.hid (HBW5.out.trans (HB6.out.mono HBW5.out.size))
        have HGE : Hid (W.heap.size ≤ b) := Lib.hid (by have h1 := HGB.out; have h2 := HBW5.out.size; omega)
        have HNEW : Hid (∀ p ∈ L, p.1 ≠ b) := Lib.hid (fun p hp e => by have h1 := blk_lt (HT5.out.kb p hp); have h2 := HGB.out; omega)
        obtain ⟨W7, hW7⟩ : ∃ W7, W7 = w6.drew := ⟨_, rfl⟩
        have HT7 : Hid (TSt W.heap.size W7 bM v7 vo L) := Lib.hid (by rw [hW7]; exact HT6.out.below (below_drew (Below.refl _ _)))
        have HX7 : Hid (W7.heap[g9]? = some (.cells #[.int .i64 f0, .int .i64 f1, .int .i64 f2, .int .i64 f3] 36 (0, 0))) := Lib.hid (by rw [hW7]; exact HX6.out)
        have HKB7 : Hid (KB W7 b (newK (i : Int) f1) (.slice none 0 0)) := Lib.hid (by rw [hW7]; exact HKB6.out)
        have HBW7 : Hid (Below W.heap.size W W7) := Lib.hid (by rw [hW7]; exact below_drew HBW6.out)
        have HBG : Hid (W.heap.size ≤ W7.heap.size) := Lib.hid HBW7.out.size
        have HLB : Hid (((L.map (·.1)).length + 1) * 8 ≤ 140737488355328) := Lib.hid (by rw [List.length_map]; have h1 := HLL.out.1; have h2 := HLN.out; omega)
        clear u0 u1 u2 u3 l1
        have u0 : w6.cell? ⟨g9, 0, none⟩ = some (.int .i64 f0) := (blk_cell HX6.out 0).trans rfl
        have u1 : w6.cell? ⟨g9, 1, none⟩ = some (.int .i64 f1) := (blk_cell HX6.out 1).trans rfl
        have u2 : w6.cell? ⟨g9, 2, none⟩ = some (.int .i64 f2) := (blk_cell HX6.out 2).trans rfl
        have u3 : w6.cell? ⟨g9, 3, none⟩ = some (.int .i64 f3) := (blk_cell HX6.out 3).trans rfl
        clear HT5 HT6 HX5 HX6 HBW5 HBW6 HKB6 HB6 HGB
        refine start_ (n := 10) (S := fun w' => w'.cell? ⟨g9, 1, none⟩ = some (.int .i64 f1)) (ds := [8]) #[false, false, false, false, false, false, false, false, false, false] (by kernel_rfl) rfl rfl (u1) (fun hHeld => ?_)
        rw [← hW7] at hHeld ⊢
        clear hW7 u0 u1 u2 u3
        refine pure_ (i := 0) (N := some 42) (v := ?_) (a' := ?_) #[true, false, false, false, false, false, false, false, false, false] rfl rfl (by kernel_rfl) (fun _ _ _ h => h) (Or.inl ⟨by rfl, ?_⟩) ?_ ?_
        rotate_left
        · intro w'
          go_simp
          with_reducible rfl
        rotate_left
        · simp only [Act.put, List.setIfInBounds_toArray, List.set_cons_zero, List.set_cons_succ, i64_w, i32_w]
          rfl
        refine pure_ (i := 1) (N := some 43) (v := ?_) (a' := ?_) #[true, true, false, false, false, false, false, false, false, false] rfl rfl (by kernel_rfl) (fun _ _ _ h => h) (Or.inl ⟨by rfl, ?_⟩) ?_ ?_
        rotate_left
        · intro w'
          go_simp
          with_reducible rfl
        rotate_left
        · simp only [Act.put, List.setIfInBounds_toArray, List.set_cons_zero, List.set_cons_succ, i64_w, i32_w]
          rfl
        refine pure_ (i := 3) (N := some 45) (v := ?_) (a' := ?_) #[true, true, false, true, false, false, false, false, false, false] rfl rfl (by kernel_rfl) (fun _ _ _ h => h) (Or.inl ⟨by rfl, ?_⟩) ?_ ?_
        rotate_left
        · intro w'
          go_simp
          with_reducible rfl
        rotate_left
        · simp only [Act.put, List.setIfInBounds_toArray, List.set_cons_zero, List.set_cons_succ, i64_w, i32_w]
          rfl
        refine pure_ (i := 4) (N := some 46) (v := ?_) (a' := ?_) #[true, true, false, true, true, false, false, false, false, false] rfl rfl (by kernel_rfl) (fun _ _ _ h => h) (Or.inl ⟨by rfl, ?_⟩) ?_ ?_
        rotate_left
        · intro w'
          go_simp
          with_reducible rfl
        rotate_left
        · simp only [Act.put, List.setIfInBounds_toArray, List.set_cons_zero, List.set_cons_succ, i64_w, i32_w]
          rfl
        refine pure_ (i := 5) (N := some 47) (v := ?_) (a' := ?_) #[true, true, false, true, true, true, false, false, false, false] rfl rfl (by kernel_rfl) (fun _ _ _ h => h) (Or.inl ⟨by rfl, ?_⟩) ?_ ?_
        rotate_left
        · intro w'
          go_simp
          with_reducible rfl
        rotate_left
        · simp only [Act.put, List.setIfInBounds_toArray, List.set_cons_zero, List.set_cons_succ, i64_w, i32_w]
          rfl
        refine take_ (i := 2) (N := some 44) (v := ?_) (a' := ?_) #[true, true, true, true, true, true, false, false, false, false] rfl rfl (by kernel_rfl) (fun _ _ _ h => h) (Or.inl ⟨by rfl, ?_⟩) hHeld ?_ ?_
        rotate_left
        · intro w' s0
          go_simp
          with_reducible rfl
        rotate_left
        · simp only [Act.put, List.setIfInBounds_toArray, List.set_cons_zero, List.set_cons_succ, i64_w, i32_w]
          rfl
        refine one_ (i := 6) (N := some 48) #[true, true, true, true, true, true, true, false, false, false] rfl rfl (by kernel_rfl) (by decide) (fun K hK => ?_)
        refine value_ (w1 := ?_) (v := ?_) (by rfl) rfl ?_ ?_
        rotate_left 2
        · go_simp
          constructor
          · rfl
          · rfl
        refine hK.out _ _ ((pw_cell_below (below_alloc (Below.refl _ _) _) hHeld)) (fun hHeld => ?_)
        clear hK K
        refine norm_ (a' := ?_) ?_ ?_
        rotate_left
        · show Act.put _ (some 48) _ = _
          simp only [Act.put, List.setIfInBounds_toArray, List.set_cons_zero, List.set_cons_succ, i64_w, i32_w]
          rfl
        refine one_ (i := 7) (N := some 49) #[true, true, true, true, true, true, true, true, false, false] rfl rfl (by kernel_rfl) (by decide) (fun K hK => ?_)
        refine Kd.R_append_step kP (w0 := W) (W := W7) W.heap.size (by rfl) (.tmp 46) (.tmp 48) 101 102 (.pointer none) 8 rfl Tryd.underlying101 infoPt rfl (by decide) (by decide) v7 (L.map (·.1)) b [VP b] (fun _ => True) (fun _ => False) rfl rfl rfl (fun _ h => h.elim) (fun _ _ => trivial) HT7.out.row HBW7.out HBG.out HLB.out ?_
        intro v8 w8 hRow hBl hGr hAt
        have hmap8 : MapIs VP w8 bM (findB L) := HT7.out.map.kept (hGr.block bM HT7.out.map.lt (fun he => by
            obtain ⟨cells, hc2⟩ := (own_lt' HT7.out.row he.symm).2
            exact neMap hc2 HT7.out.map rfl))
        obtain ⟨w9, hup, hput, hmap9⟩ := hmap8.put (P := Tryd.prog) Tryd.underlying100 Tryd.underlying3 f1 b
        have hup : (Instr.mapUpdate 100 (.map (some bM)) (.int .i64 f1) (.pointer (some ⟨b, 0, none⟩))).run Tryd.prog w8 = .ok () w9 := hup
        have HX8 : Hid (w8.heap[g9]? = some (.cells #[.int .i64 f0, .int .i64 f1, .int .i64 f2, .int .i64 f3] 36 (0, 0))) := Lib.hid (blk_grown HX7.out hGr (fun he => by
            obtain ⟨cells, hc2⟩ := (own_lt' HT7.out.row he.symm).2
            exact neTy HX7.out hc2 (by decide) rfl))
        have HX9 : Hid (w9.heap[g9]? = some (.cells #[.int .i64 f0, .int .i64 f1, .int .i64 f2, .int .i64 f3] 36 (0, 0))) := Lib.hid (by
            rw [hput.other g9 (fun e => by subst e; exact neMap HX7.out HT7.out.map rfl)]
            exact HX8.out)
        have HT9 : Hid (TSt W.heap.size w9 bM v8 (fun g => if g = b then .slice none 0 0 else vo g) (L ++ [(b, newK (i : Int) f1)])) := Lib.hid (TSt.add HT7.out HKB7.out rfl HGE.out HNEW.out HNO.out hRow hGr hput hmap9)
        have HBW9 : Hid (Below W.heap.size W w9) := Lib.hid (hput.below hBl HT7.out.bm)
        clear hRow hBl hGr hAt hmap8 hput hmap9
        refine hK.out _ _ (((blk_cell HX8.out 1).trans rfl)) (fun hHeld => ?_)
        clear hK K
        refine norm_ (a' := ?_) ?_ ?_
        rotate_left
        · show Act.put _ (some 49) _ = _
          simp only [Act.put, List.setIfInBounds_toArray, List.set_cons_zero, List.set_cons_succ, i64_w, i32_w]
          rfl
        refine last_ (i := 8) (N := none) #[true, true, true, true, true, true, true, true, true, false] rfl rfl (by kernel_rfl) (by decide) (fun K hK => ?_)
        refine skip_ (w1 := ?_) (by rfl) rfl ?_ ?_
        rotate_left
        · go_simp
          rfl
        refine hK.out _ _ ?_
        clear hK K
        refine pure_ (i := 9) (N := some 7) (v := ?_) (a' := ?_) #[true, true, true, true, true, true, true, true, true, true] rfl rfl (by kernel_rfl) (fun _ _ _ h => h) (Or.inl ⟨by rfl, ?_⟩) ?_ ?_
        rotate_left
        · intro w'
          go_simp
          with_reducible rfl
        rotate_left
        · simp only [Act.put, List.setIfInBounds_toArray, List.set_cons_zero, List.set_cons_succ, i64_w, i32_w]
          rfl
        refine done_ (by kernel_rfl) ?_

        have u0 : w9.cell? ⟨g9, 0, none⟩ = some (.int .i64 f0) := (blk_cell HX9.out 0).trans rfl
        have u1 : w9.cell? ⟨g9, 1, none⟩ = some (.int .i64 f1) := (blk_cell HX9.out 1).trans rfl
        have u2 : w9.cell? ⟨g9, 2, none⟩ = some (.int .i64 f2) := (blk_cell HX9.out 2).trans rfl
        have u3 : w9.cell? ⟨g9, 3, none⟩ = some (.int .i64 f3) := (blk_cell HX9.out 3).trans rfl
        have hmem : (b, newK (i : Int) f1) ∈ L ++ [(b, newK (i : Int) f1)] := List.mem_append_right _ List.mem_cons_self
        have hkb := HT9.out.kb _ hmem
        have hks := HT9.out.ks _ hmem
        dsimp only at hkb hks
        rw [if_pos rfl] at hkb hks
        have HTK := Lib.hid (take_run (k := newK (i : Int) f1) (Ao := none) (co := 0) (i : Int) ⟨f0, f1, f2, f3⟩ hkb hks HGE.out (by show (0 : Nat) ≤ 100000; omega))
        have HMEM := Lib.hid hmem
        clear hmem hkb hks
        go_wp2_with (first
          | (go_at_call 72; refine HTK.out.mono ?_; rintro x w10 ⟨rfl, hres⟩; have HRES := Lib.hid hres; clear hres))
        obtain ⟨vo', hT10⟩ := HT9.out.take HMEM.out (i : Int) ⟨f0, f1, f2, f3⟩ rfl (by (try dsimp only); rw [if_pos rfl]; exact HRES.out)
        have HT10 := Lib.hid hT10
        clear hT10
        go_roundw
        case rel =>
          refine ⟨i + 1, updL (i : Int) ⟨f0, f1, f2, f3⟩ (L ++ [(b, newK (i : Int) f1)]), vo', v8, rfl, by omega, by go_num, HT10, Lib.hid (HBW9.out.trans HRES.out.below), Lib.hid ?_, Lib.hid ?_⟩
          · have := HI2.out
            unfold insK at this
            have hno : hasN (L.map (·.2)) f1 = false := (findB_none L f1).1 HNO.out
            rw [if_neg (by rw [hno]; exact Bool.false_ne_true)] at this
            have e2 : (L ++ [(b, newK (i : Int) f1)]).map (·.2) = L.map (·.2) ++ [newK (i : Int) f1] := by rw [List.map_append]; rfl
            rw [this, updL_snd, e2]
          · have h0 : (L ++ [(b, newK (i : Int) f1)]).length ≤ i + 1 ∧ ∀ p ∈ L ++ [(b, newK (i : Int) f1)], p.2.ops.length ≤ i := by
              refine ⟨by rw [List.length_append]; have := HLL.out.1; simp; omega, fun p hp => ?_⟩
              rcases List.mem_append.1 hp with hp | hp
              · exact HLL.out.2 p hp
              · have : p = (b, newK (i : Int) f1) := by simpa using hp
                rw [this]
                exact Nat.zero_le _
            refine ⟨by unfold updL; rw [List.length_map]; exact h0.1, fun p hp => ?_⟩
            obtain ⟨q, hq, rfl⟩ := List.mem_map.1 hp
            have h1 := upd_ops (i : Int) ⟨f0, f1, f2, f3⟩ q.2
            have h2 := h0.2 q hq
            dsimp only
            omega
        case measure => simp [intOf]; omega
    · obtain rfl : i = l.length := by omega
      have e1 := HI.out
      rw [List.drop_length] at e1
      unfold tabK at e1
      subst e1
      obtain ⟨A7, c7, e7⟩ := Kd.R_slice HT.out.row
      rw [List.length_map] at e7
      subst e7
      have HLEN : Hid (L.length ≤ 60) := Lib.hid (by have h1 := HLL.out.1; have h2 := HLN.out; omega)
      have hL60 : L.length ≤ 60 := HLEN.out
      clear HI HR HE HLL
      go_wp2
      go_loopw [11, 57] (fun va v57 wx => ∃ (j : Nat) (v11 : Value) (wq : World), v11 = va ∧ wq = wx ∧ j ≤ L.length ∧ v57 = .int .i64 (j : Int) ∧ Hid (Kd.S k34 34 wq W.heap.size (okJ vo L j) v11 ((L.take j).map fun p => txnK p.2)) ∧ Hid (TSt W.heap.size wq bM (.slice A7 L.length c7) vo L) ∧ Hid (Below W.heap.size W wq)) (fun v11 v57 _ => L.length - (intOf v57).toNat)
      case atStart => exact ⟨0, _, _, rfl, rfl, Nat.zero_le _, rfl, Lib.hid (Kd.S_nil _ _ _ _ _), HT, HBW⟩
      case round =>
        obtain ⟨j, v11, wq, hv11, hwq, hj, rfl, HS, HTq, HBq⟩ := hrel
        subst hv11 hwq
        clear HT HBW
        by_cases hlt : j < L.length
        · obtain ⟨ad7, hA7, hxP⟩ := at_P (Kd.R_reads' HTq.out.row).2.2 (j : Int) (by omega) (by rw [List.length_map]; omega)
          subst hA7
          rw [Int.toNat_natCast] at hxP
          obtain ⟨p, hp⟩ : ∃ p, L[j] = p := ⟨_, rfl⟩
          have hmem : p ∈ L := by rw [← hp]; exact List.getElem_mem hlt
          have hg : (L.map (·.1)).getD j 0 = p.1 := by
            rw [List.getD_eq_getElem?_getD, List.getElem?_map, List.getElem?_eq_getElem hlt, hp]; rfl
          rw [hg] at hxP
          have htk : (L.take (j + 1)).map (fun p => txnK p.2) = (L.take j).map (fun p => txnK p.2) ++ [txnK p.2] := by
            rw [List.take_succ_eq_append_getElem hlt, List.map_append, hp]; rfl
          have hdr : L.drop j = p :: L.drop (j + 1) := by rw [List.drop_eq_getElem_cons hlt, hp]
          have hne : ∀ q ∈ L.drop (j + 1), p.1 ≠ q.1 := by
            have hnd := HTq.out.nd
            rw [← List.take_append_drop j L, hdr, List.map_append, List.nodup_append] at hnd
            have h2 := hnd.2.1
            rw [List.map_cons, List.nodup_cons] at h2
            intro q hq e
            exact h2.1 (by rw [e]; exact List.mem_map_of_mem hq)
          have hkb := HTq.out.kb p hmem
          have hks := HTq.out.ks p hmem
          obtain ⟨Ak, ck, hvk⟩ := HTq.out.sl p hmem
          have hap := HTq.out.ap p hmem
          obtain ⟨b, k⟩ := p
          dsimp only at hxP hkb hks hvk hne hap htk hdr
          rw [hvk] at hkb hks
          replace hxP : wq.cell? (ad7.add j) = some (.pointer (some ⟨b, 0, none⟩)) := hxP
          unfold KB at hkb
          have q0 := (blk_cell hkb 0).trans rfl
          have q1 := (blk_cell hkb 1).trans rfl
          have q2 := (blk_cell hkb 2).trans rfl
          have q3 := (blk_cell hkb 3).trans rfl
          have q4 := (blk_cell hkb 4).trans rfl
          have HM : Hid (k34.M wq W.heap.size (fun q => (vo b).ownBlock = some q) (txnK k) [.int .i64 k.name, .int .i64 k.first, .int .i64 k.last, .int .i64 k.st, .slice Ak k.ops.length ck]) := Lib.hid (k34_mkM _ _ _ (txnK k) (by rw [hvk]; exact tight52 hks))
          have HS1 : Hid (Kd.S k34 34 wq W.heap.size (fun q => okJ vo L (j + 1) q ∧ ¬ (vo b).ownBlock = some q) v11 ((L.take j).map fun p => txnK p.2)) := Lib.hid (Kd.S_mono HS.out (fun q hq => ⟨fun r hr => hq r (by rw [hdr]; exact List.mem_cons_of_mem _ hr), hq (b, k) (by rw [hdr]; exact List.mem_cons_self)⟩))
          have HOP : Hid (∀ q, (vo b).ownBlock = some q → okJ vo L (j + 1) q ∧ some q ≠ v11.ownBlock) := Lib.hid (fun q hq => ⟨fun r hr => hap r (List.mem_of_mem_drop hr) (hne r hr) q hq, fun he => by
            obtain ⟨cells, hc⟩ := Kd.S_typed HS.out q he.symm
            rw [hvk] at hq
            obtain ⟨cells2, hc2⟩ := (own_lt' hks hq).2
            exact neTy hc2 hc (by decide) rfl⟩)
          have HFRS : Hid (∀ q, wq.heap.size ≤ q → okJ vo L (j + 1) q) := Lib.hid (fun q hq r hr he => by
            have := (own_lt' (HTq.out.ks r (List.mem_of_mem_drop hr)) he).1
            omega)
          have HLQ : Hid ((((L.take j).map fun p => txnK p.2).length + 1) * 56 ≤ 140737488355328) := Lib.hid (by rw [List.length_map, List.length_take]; have := HLEN.out; omega)
          have HTK := Lib.hid htk
          clear hmem hg htk hdr hne hkb hks hap hp hvk HS
          go_wp2_with (first
            | ((with_reducible refine gate_builtin (b := .append) (xs := #[.tmp 61, .tmp 66]) rfl ?_); at_builtin; refine Kd.S_append k34 (w0 := W) (W := wq) W.heap.size rfl (.tmp 61) (.tmp 66) 23 34 (.agg #[(.int .i64 0), (.int .i64 0), (.int .i64 0), (.int .i64 0), (.slice none 0 0)]) 56 rfl Tryd.underlying23 infoTx rfl (by decide) (by omega) v11 ((L.take j).map fun p => txnK p.2) (txnK k) [.int .i64 k.name, .int .i64 k.first, .int .i64 k.last, .int .i64 k.st, .slice Ak k.ops.length ck] (okJ vo L (j + 1)) (fun q => (vo b).ownBlock = some q) rfl rfl HM.out HOP.out HFRS.out HS1.out HBq.out HBq.out.size HLQ.out ?_; intro v12 w12 hS12 hB12 hG12 hA12; have HS12 := Lib.hid hS12; have HB12 := Lib.hid hB12; have HT12 := Lib.hid (HTq.out.far hG12 (fun g hg => Kd.S_typed HS1.out g hg) (by decide) (by decide) (by decide)); clear hS12 hB12 hG12 hA12))
          go_roundw
          case rel => exact ⟨j + 1, v12, w12, rfl, rfl, by omega, by go_num, Lib.hid (by rw [HTK.out]; exact HS12.out), HT12, HB12⟩
          case measure => simp [intOf]; omega
        · obtain rfl : j = L.length := by omega
          go_wp2
          go_ret2
          refine ⟨_, rfl, ?_, HBq.out⟩
          have := HS.out
          rw [List.take_length] at this
          rw [List.map_map]
          exact Kd.S_mono this (fun _ _ => trivial)
set_option maxHeartbeats 1000000 in
theorem table_Table.calls (A0 : Option Addr) (c0 : Nat) (l0 : List S36) (r1 : List S34) (r2 : Int) (W : World) (hr0 : Kd.C k36 W A0 l0.length l0) (hc0 : l0.length ≤ c0) (h : table_Table.f l0 = some (r1, r2)) (hT : KTab W) :
    Calls Tryd.prog 18 #[.slice A0 l0.length c0] W fun e w' => ∃ v0_ : Value, e = .returned (.tuple #[v0_, .int .i64 r2]) ∧ Kd.S k34 34 w' W.heap.size (fun _ => True) v0_ r1 ∧ Below W.heap.size W w' := by
  have hv := Option.some.inj h
  cases hrb : rightsB l0 with
  | true =>
    rw [hrb, if_pos rfl] at hv
    by_cases hlt : (runI noF l0 : Int) < l0.length
    · rw [if_pos hlt] at hv
      simp only [Prod.mk.injEq] at hv
      obtain ⟨rfl, rfl⟩ := hv
      have hchk := proper_Check.calls A0 c0 l0 (runI noF l0 : Int) 6 W hr0 hc0 (by unfold proper_Check.f; rw [hrb, if_pos rfl, if_pos hlt]) hT
      have HCK := Lib.hid hchk
      clear hchk h hr0 hT
      go_enter Tryd.func18, Tryd.ntmps18
      go_wp2_with (first
        | (go_at_call 56; refine HCK.out.mono ?_; rintro x w1 ⟨rfl, hb⟩; have HB1 := Lib.hid hb; clear hb))
      go_ret2
      exact ⟨_, rfl, Kd.S_nil _ _ _ _ _, HB1.out⟩
    · rw [if_neg hlt] at hv
      simp only [Prod.mk.injEq] at hv
      obtain ⟨rfl, rfl⟩ := hv
      have hle := runI_le l0 noF
      refine table_main A0 c0 l0 W hr0 hc0 hT (rights_len hrb) ?_
      unfold proper_Check.f
      rw [hrb, if_pos rfl, if_neg hlt, show (runI noF l0 : Int) = (l0.length : Int) by omega]
  | false =>
    rw [hrb, if_neg Bool.false_ne_true] at hv
    simp only [Prod.mk.injEq] at hv
    obtain ⟨rfl, rfl⟩ := hv
    have hchk := proper_Check.calls A0 c0 l0 0 1 W hr0 hc0 (by unfold proper_Check.f; rw [hrb, if_neg Bool.false_ne_true]) hT
    have HCK := Lib.hid hchk
    clear hchk h hr0 hT
    go_enter Tryd.func18, Tryd.ntmps18
    go_wp2_with (first
      | (go_at_call 56; refine HCK.out.mono ?_; rintro x w1 ⟨rfl, hb⟩; have HB1 := Lib.hid hb; clear hb))
    go_ret2
    exact ⟨_, rfl, Kd.S_nil _ _ _ _ _, HB1.out⟩
end Go.Proofs.YtkjkceeopkfniaaDoor.P

/- prefix.Serial, given: whether transactions are one after the other; it asks that the table of kinds lies in the world. -/
import Derived.Test.YtkjkceeopkfniaaDoorGOf3
import Derived.Test.YtkjkceeopkfniaaDoorGTable
namespace Go.Proofs.YtkjkceeopkfniaaDoor.P
set_option linter.unusedVariables false
set_option linter.unusedSimpArgs false
open Go Go.RowKit Go.Proofs.YtkjkceeopkfniaaDoorW.PrintWords Go.Proofs.YtkjkceeopkfniaaDoorW.PrintLast Go.Proofs.YtkjkceeopkfniaaDoorW.PrintMore Go.Proofs.YtkjkceeopkfniaaDoor.U

def apartB (l : List S36) (t : S34) : Bool := wrap64 (wrap64 (t.f2 - t.f1) + 1) != ((l.filter (keepE t.f0)).length : Int)
def idxG {α : Type} (g : α → Bool) : List α → Nat → Int
  | [], _ => -1
  | x :: t, i => if g x then i else idxG g t (i + 1)
theorem idxG_any {α : Type} (g : α → Bool) (l : List α) : ∀ i, decide (idxG g l i ≥ 0) = l.any g := by
  induction l with
  | nil => intro i; rfl
  | cons x t ih =>
    intro i
    unfold idxG
    cases hg : g x with
    | true => simp [hg]
    | false => simp only [Bool.false_eq_true, if_false]; rw [ih]; simp [hg]
theorem idxT_drop (g : S34 → Bool) (l : List S34) (k : Nat) (h : k < l.length) : idxG g (l.drop k) k = if g (rd_T34 l (k : Int)) then (k : Int) else idxG g (l.drop (k + 1)) (k + 1) := by
  rw [List.drop_eq_getElem_cons h]
  have : rd_T34 l (k : Int) = l[k] := by unfold rd_T34; rw [Int.toNat_natCast, List.getD_eq_getElem?_getD, List.getElem?_eq_getElem h]; rfl
  rw [this]; rfl
abbrev fApart (bh : Nat) : Value := .func (.func 84) #[] #[.pointer (some ⟨bh, 0, none⟩)]
set_option maxHeartbeats 1000000 in
set_option maxRecDepth 100000 in
theorem apart_any (t : S34) (v4 : Value) (h4 : v4.oneCell' = true ∧ v4.cells.toList = [v4]) (A : Option Addr) (c : Nat) (l : List S36) (bh : Nat) (W : World) (hb : Boxed W bh 22 (.slice A l.length c)) (hr : Kd.C k36 W A l.length l) (hc : l.length ≤ c) (hl : l.length ≤ 1000) :
    Calls Tryd.prog 84 #[.agg #[.int .i64 t.f0, .int .i64 t.f1, .int .i64 t.f2, .int .i64 t.f3, v4], .pointer (some ⟨bh, 0, none⟩)] W fun x w' => x = .returned (.bool (apartB l t)) ∧ Below W.heap.size W w' := by
  obtain ⟨r, hr1⟩ : ∃ r, r = apartB l t := ⟨_, rfl⟩
  rw [← hr1]
  obtain ⟨m, hm⟩ : ∃ m, m = l.filter (keepE t.f0) := ⟨_, rfl⟩
  have ho : ∀ w, Below W.heap.size W w → Calls Tryd.prog 58 #[.slice A l.length c, .int .i64 t.f0] w fun e w' => ∃ v', e = .returned v' ∧ Kd.R k36 36 w' w.heap.size (fun _ => True) v' m ∧ Below w.heap.size w w' := by
    intro w hw
    exact prefix_Of.calls A c l t.f0 m w (Kd.C_below hr hw) hc (by unfold prefix_Of.f; rw [if_pos (by omega), hm])
  unfold apartB at hr1
  rw [← hm] at hr1
  have HO := Lib.hid ho
  have HB := Lib.hid hb
  have HR1 := Lib.hid hr1
  obtain ⟨t0, t1, t2, t3, t4⟩ := t
  dsimp only at HO HR1 ⊢
  clear hr hb ho hr1 hm hl
  go_enter Tryd.func84, Tryd.ntmps84
  go_upto_region 1 with (first
    | ((with_reducible refine gate_dst (N := 2) rfl ?_); refine box_event ?hg (N := 2) ?hd (cs := #[.int .i64 t0, .int .i64 t1, .int .i64 t2, .int .i64 t3, v4]) (t := 34) ?hr ?_; (case hd => rfl); (case hg => rfl); (case hr => first | (go_simp; done) | (go_simp; rfl)); intro g hg w1 hbox hb; have HX := Lib.hid hbox; have HB1 := Lib.hid hb; have z0 : w1.cell? ⟨g, 0, none⟩ = some (.int .i64 t0) := (blk_cell hbox 0).trans rfl; have z1 : w1.cell? ⟨g, 1, none⟩ = some (.int .i64 t1) := (blk_cell hbox 1).trans rfl; have z2 : w1.cell? ⟨g, 2, none⟩ = some (.int .i64 t2) := (blk_cell hbox 2).trans rfl; have zb : w1.cell? ⟨bh, 0, none⟩ = some (.slice A l.length c) := pw_cell_below hb HB.out.cell; clear hbox hb hg))
  -- REGION
  obtain ⟨W3, hW3⟩ : ∃ W3, W3 = w1.drew := ⟨_, rfl⟩
  have HB3 : Hid (Below W.heap.size W W3) := Lib.hid (by rw [hW3]; exact below_drew HB1.out)
  refine start_ (n := 13) (S := fun w' => w'.cell? ⟨g, 0, none⟩ = some (.int .i64 t0) ∧ w'.cell? ⟨g, 1, none⟩ = some (.int .i64 t1) ∧ w'.cell? ⟨g, 2, none⟩ = some (.int .i64 t2) ∧ w'.cell? ⟨bh, 0, none⟩ = some (.slice A l.length c)) (ds := []) #[false, false, false, false, false, false, false, false, false, false, false, false, false] (by kernel_rfl) rfl rfl ⟨z0, z1, z2, zb⟩ (fun hHeld => ?_)
  rw [← hW3] at hHeld ⊢
  clear hW3 z0 z1 z2 zb
  refine pure_ (i := 0) (N := some 4) (v := ?_) (a' := ?_) #[true, false, false, false, false, false, false, false, false, false, false, false, false] rfl rfl (by kernel_rfl) (fun _ _ _ h => h) (Or.inl ⟨by rfl, ?_⟩) ?_ ?_
  rotate_left
  · intro w'
    go_simp
    with_reducible rfl
  rotate_left
  · simp only [Act.put, List.setIfInBounds_toArray, List.set_cons_zero, List.set_cons_succ, i64_w, i32_w]
    rfl
  refine pure_ (i := 2) (N := some 6) (v := ?_) (a' := ?_) #[true, false, true, false, false, false, false, false, false, false, false, false, false] rfl rfl (by kernel_rfl) (fun _ _ _ h => h) (Or.inl ⟨by rfl, ?_⟩) ?_ ?_
  rotate_left
  · intro w'
    go_simp
    with_reducible rfl
  rotate_left
  · simp only [Act.put, List.setIfInBounds_toArray, List.set_cons_zero, List.set_cons_succ, i64_w, i32_w]
    rfl
  refine pure_ (i := 7) (N := some 11) (v := ?_) (a' := ?_) #[true, false, true, false, false, false, false, true, false, false, false, false, false] rfl rfl (by kernel_rfl) (fun _ _ _ h => h) (Or.inl ⟨by rfl, ?_⟩) ?_ ?_
  rotate_left
  · intro w'
    go_simp
    with_reducible rfl
  rotate_left
  · simp only [Act.put, List.setIfInBounds_toArray, List.set_cons_zero, List.set_cons_succ, i64_w, i32_w]
    rfl
  refine take_ (i := 1) (N := some 5) (v := ?_) (a' := ?_) #[true, true, true, false, false, false, false, true, false, false, false, false, false] rfl rfl (by kernel_rfl) (fun _ _ _ h => h) (Or.inl ⟨by rfl, ?_⟩) hHeld ?_ ?_
  rotate_left
  · rintro w' ⟨s0, s1, s2, s3⟩
    go_simp
    with_reducible rfl
  rotate_left
  · simp only [Act.put, List.setIfInBounds_toArray, List.set_cons_zero, List.set_cons_succ, i64_w, i32_w]
    rfl
  refine take_ (i := 3) (N := some 7) (v := ?_) (a' := ?_) #[true, true, true, true, false, false, false, true, false, false, false, false, false] rfl rfl (by kernel_rfl) (fun _ _ _ h => h) (Or.inl ⟨by rfl, ?_⟩) hHeld ?_ ?_
  rotate_left
  · rintro w' ⟨s0, s1, s2, s3⟩
    go_simp
    with_reducible rfl
  rotate_left
  · simp only [Act.put, List.setIfInBounds_toArray, List.set_cons_zero, List.set_cons_succ, i64_w, i32_w]
    rfl
  refine pure_ (i := 4) (N := some 8) (v := ?_) (a' := ?_) #[true, true, true, true, true, false, false, true, false, false, false, false, false] rfl rfl (by kernel_rfl) (fun _ _ _ h => h) (Or.inl ⟨by rfl, ?_⟩) ?_ ?_
  rotate_left
  · intro w'
    go_simp
    with_reducible rfl
  rotate_left
  · simp only [Act.put, List.setIfInBounds_toArray, List.set_cons_zero, List.set_cons_succ, i64_w, i32_w]
    rfl
  refine pure_ (i := 5) (N := some 9) (v := ?_) (a' := ?_) #[true, true, true, true, true, true, false, true, false, false, false, false, false] rfl rfl (by kernel_rfl) (fun _ _ _ h => h) (Or.inl ⟨by rfl, ?_⟩) ?_ ?_
  rotate_left
  · intro w'
    go_simp
    with_reducible rfl
  rotate_left
  · simp only [Act.put, List.setIfInBounds_toArray, List.set_cons_zero, List.set_cons_succ, i64_w, i32_w]
    rfl
  refine take_ (i := 6) (N := some 10) (v := ?_) (a' := ?_) #[true, true, true, true, true, true, true, true, false, false, false, false, false] rfl rfl (by kernel_rfl) (fun _ _ _ h => h) (Or.inl ⟨by rfl, ?_⟩) hHeld ?_ ?_
  rotate_left
  · rintro w' ⟨s0, s1, s2, s3⟩
    go_simp
    with_reducible rfl
  rotate_left
  · simp only [Act.put, List.setIfInBounds_toArray, List.set_cons_zero, List.set_cons_succ, i64_w, i32_w]
    rfl
  refine take_ (i := 8) (N := some 12) (v := ?_) (a' := ?_) #[true, true, true, true, true, true, true, true, true, false, false, false, false] rfl rfl (by kernel_rfl) (fun _ _ _ h => h) (Or.inl ⟨by rfl, ?_⟩) hHeld ?_ ?_
  rotate_left
  · rintro w' ⟨s0, s1, s2, s3⟩
    go_simp
    with_reducible rfl
  rotate_left
  · simp only [Act.put, List.setIfInBounds_toArray, List.set_cons_zero, List.set_cons_succ, i64_w, i32_w]
    rfl
  refine one_ (i := 9) (N := some 13) #[true, true, true, true, true, true, true, true, true, true, false, false, false] rfl rfl (by kernel_rfl) (by decide) (fun K hK => ?_)
  refine goes_ Tryd.func58 (by kernel_rfl) rfl #[.slice A l.length c, .int .i64 t0] (by rfl) rfl rfl (by simp only [List.map_toArray, List.map_cons, List.map_nil]; rfl) ?_
  with_reducible refine (HO.out _ HB3.out).mono ?_
  rintro x w4 ⟨v2, rfl, hr2, hb2⟩
  refine ⟨_, rfl, ?_⟩
  obtain ⟨A2, c2, rfl⟩ := Kd.R_slice hr2
  have HB4 := Lib.hid hb2
  refine hK.out _ _ ⟨(pw_cell_below hb2 hHeld.1), (pw_cell_below hb2 hHeld.2.1), (pw_cell_below hb2 hHeld.2.2.1), (pw_cell_below hb2 hHeld.2.2.2)⟩ (fun hHeld => ?_)
  clear hK K
  refine norm_ (a' := ?_) ?_ ?_
  rotate_left
  · show Act.put _ (some 13) _ = _
    simp only [Act.put, List.setIfInBounds_toArray, List.set_cons_zero, List.set_cons_succ, i64_w, i32_w]
    rfl
  refine pure_ (i := 10) (N := some 14) (v := ?_) (a' := ?_) #[true, true, true, true, true, true, true, true, true, true, true, false, false] rfl rfl (by kernel_rfl) (fun _ _ _ h => h) (Or.inl ⟨by rfl, ?_⟩) ?_ ?_
  rotate_left
  · intro w'
    go_simp
    with_reducible rfl
  rotate_left
  · simp only [Act.put, List.setIfInBounds_toArray, List.set_cons_zero, List.set_cons_succ, i64_w, i32_w]
    rfl
  refine pure_ (i := 11) (N := some 15) (v := ?_) (a' := ?_) #[true, true, true, true, true, true, true, true, true, true, true, true, false] rfl rfl (by kernel_rfl) (fun _ _ _ h => h) (Or.inl ⟨by rfl, ?_⟩) ?_ ?_
  rotate_left
  · intro w'
    go_simp
    with_reducible rfl
  rotate_left
  · simp only [Act.put, List.setIfInBounds_toArray, List.set_cons_zero, List.set_cons_succ, i64_w, i32_w]
    rfl
  refine pure_ (i := 12) (N := some 3) (v := ?_) (a' := ?_) #[true, true, true, true, true, true, true, true, true, true, true, true, true] rfl rfl (by kernel_rfl) (fun _ _ _ h => h) (Or.inl ⟨by rfl, ?_⟩) ?_ ?_
  rotate_left
  · intro w'
    go_simp
    with_reducible rfl
  rotate_left
  · simp only [Act.put, List.setIfInBounds_toArray, List.set_cons_zero, List.set_cons_succ, i64_w, i32_w]
    rfl
  refine done_ (by kernel_rfl) ?_

  -- END
  go_wp2
  go_ret
  exact ⟨by rw [HR1.out]; rfl, HB3.out.trans (HB4.out.mono HB3.out.size)⟩
set_option maxHeartbeats 1000000 in
theorem index_apart (B : Option Addr) (n c2 : Nat) (ts : List S34) (A : Option Addr) (c : Nat) (l : List S36) (bh : Nat) (W : World) (hts : Kd.C k34 W B ts.length ts) (hb : Boxed W bh 22 (.slice A l.length c)) (hr : Kd.C k36 W A l.length l) (hc : l.length ≤ c) (hl : l.length ≤ 1000) :
    Calls Tryd.prog 79 #[.slice B ts.length c2, fApart bh] W fun e w' => e = .returned (.int .i64 (idxG (apartB l) ts 0)) ∧ Below W.heap.size W w' := by
  have HE := Lib.hid hts
  have hmax : ts.length ≤ 9223372036854775807 := hts.2.1
  obtain ⟨g, hg⟩ : ∃ g : S34 → Bool, g = apartB l := ⟨_, rfl⟩
  rw [← hg]
  have hcl : ∀ (t : S34) (A4 : Option Addr) (c4 : Nat) w, Below W.heap.size W w → Calls Tryd.prog 84 #[.agg #[.int .i64 t.f0, .int .i64 t.f1, .int .i64 t.f2, .int .i64 t.f3, .slice A4 t.f4.length c4], .pointer (some ⟨bh, 0, none⟩)] w fun x w' => x = .returned (.bool (g t)) ∧ Below w.heap.size w w' := by
    intro t A4 c4 w hw; rw [hg]; exact apart_any t (.slice A4 t.f4.length c4) ⟨rfl, rfl⟩ A c l bh w (blk_below hb hw) (Kd.C_below hr hw) hc hl
  have HC := Lib.hid hcl
  clear hr hg hb hts hcl hc hl
  go_enter Tryd.func79, Tryd.ntmps79
  go_wp2
  go_loopw [8] (fun v8 wr => ∃ k : Nat, k ≤ ts.length ∧ v8 = .int .i64 (k : Int) ∧ Hid (idxG g ts 0 = idxG g (ts.drop k) k) ∧ Hid (Below W.heap.size W wr)) (fun v8 _ => ts.length - (intOf v8).toNat)
  case atStart => exact ⟨0, Nat.zero_le _, rfl, Lib.hid rfl, Lib.hid (Below.refl _ _)⟩
  case round =>
    obtain ⟨k, hk, rfl, hI, HB⟩ := hrel
    by_cases hlt : k < ts.length
    · obtain ⟨adE, A4, c4, rfl, hx0, hx1, hx2, hx3, hx4, _, _⟩ := at_T34 (Kd.C_below HE.out HB.out) (k : Int) (by omega) (by omega)
      have hd := Lib.hid (idxT_drop g ts k hlt)
      obtain ⟨ev, hev⟩ : ∃ ev, ev = rd_T34 ts (k : Int) := ⟨_, rfl⟩
      rw [← hev] at hx0 hx1 hx2 hx3 hx4 hd
      rw [Int.toNat_natCast] at hx0 hx1 hx2 hx3 hx4
      clear hev
      have ho := HC.out ev A4 c4 wr HB.out
      cases hgx : g ev with
      | true =>
        rw [hgx] at ho
        have e1 := hd.out
        rw [hgx, if_pos rfl] at e1
        have e2 := Lib.hid (hI.out.trans e1)
        have HO := Lib.hid ho
        clear ho hgx hd hI e1
        go_wp2_with (go_at_call 84; refine HO.out.mono ?_; rintro e w' ⟨rfl, hb2⟩; have HB2 := Lib.hid (HB.out.trans (hb2.mono HB.out.size)); clear hb2)
        go_ret
        exact ⟨by rw [e2.out]; rfl, HB2.out⟩
      | false =>
        rw [hgx] at ho
        have e1 := hd.out
        rw [hgx, if_neg (by simp)] at e1
        have e2 := Lib.hid (hI.out.trans e1)
        have HO := Lib.hid ho
        clear ho hgx hd hI e1
        go_wp2_with (go_at_call 84; refine HO.out.mono ?_; rintro e w' ⟨rfl, hb2⟩; have HB2 := Lib.hid (HB.out.trans (hb2.mono HB.out.size)); clear hb2)
        go_roundw
        case rel => exact ⟨k + 1, by omega, by go_num, e2, HB2⟩
        case measure => simp [intOf]; omega
    · obtain rfl : k = ts.length := by omega
      have e1 := hI.out
      rw [List.drop_length] at e1
      have e2 := Lib.hid e1
      clear hI e1
      go_wp2
      go_ret
      exact ⟨by rw [e2.out]; rfl, HB.out⟩
theorem contains_apart (B : Option Addr) (c2 : Nat) (ts : List S34) (A : Option Addr) (c : Nat) (l : List S36) (bh : Nat) (W : World) (hts : Kd.C k34 W B ts.length ts) (hb : Boxed W bh 22 (.slice A l.length c)) (hr : Kd.C k36 W A l.length l) (hc : l.length ≤ c) (hl : l.length ≤ 1000) :
    Calls Tryd.prog 85 #[.slice B ts.length c2, fApart bh] W fun e w' => e = .returned (.bool (ts.any (apartB l))) ∧ Below W.heap.size W w' := by
  have hi := index_apart B 0 c2 ts A c l bh W hts hb hr hc hl
  have ha := Lib.hid (idxG_any (apartB l) ts 0)
  obtain ⟨r, hr⟩ : ∃ r, r = idxG (apartB l) ts 0 := ⟨_, rfl⟩
  rw [← hr] at ha hi
  have HI := Lib.hid hi
  clear hr hi
  go_enter Tryd.func85, Tryd.ntmps85
  go_wp2_with (go_at_call 79; refine HI.out.mono ?_; rintro e w' ⟨rfl, hb⟩; have HB := Lib.hid hb; clear hb)
  go_ret
  exact ⟨by rw [← ha.out]; rfl, HB.out⟩
def prefix_Serial.f (l : List S36) : Option (Bool × Int) := some (if rightsB l = true then (if (runI noF l : Int) < l.length then (false, 6) else (!((tabT l).any (apartB l)), 0)) else (false, 1))
theorem prefix_Serial.calls (A0 : Option Addr) (c0 : Nat) (l0 : List S36) (r1 : Bool) (r2 : Int) (W : World) (hr0 : Kd.C k36 W A0 l0.length l0) (hc0 : l0.length ≤ c0) (h : prefix_Serial.f l0 = some (r1, r2)) (hT : KTab W) :
    Calls Tryd.prog 31 #[.slice A0 l0.length c0] W fun e w' => e = .returned (.tuple #[.bool r1, .int .i64 r2]) ∧ Below W.heap.size W w' := by
  have hv := Option.some.inj h
  obtain ⟨ts, e, htab, hts⟩ : ∃ ts e, table_Table.f l0 = some (ts, e) ∧ (if e = 0 then (l0.length ≤ 1000 ∧ r1 = !(ts.any (apartB l0))) else r1 = false) ∧ r2 = e := by
    unfold table_Table.f
    cases hrb : rightsB l0 with
    | true =>
      rw [hrb, if_pos rfl] at hv
      by_cases hlt : (runI noF l0 : Int) < l0.length
      · rw [if_pos hlt] at hv
        simp only [Prod.mk.injEq] at hv
        exact ⟨_, _, by rw [if_pos rfl, if_pos hlt], by rw [if_neg (by decide)]; exact hv.1.symm, hv.2.symm⟩
      · rw [if_neg hlt] at hv
        simp only [Prod.mk.injEq] at hv
        exact ⟨_, _, by rw [if_pos rfl, if_neg hlt], by rw [if_pos rfl]; exact ⟨by have := rights_len hrb; omega, hv.1.symm⟩, hv.2.symm⟩
    | false =>
      rw [hrb, if_neg Bool.false_ne_true] at hv
      simp only [Prod.mk.injEq] at hv
      exact ⟨_, _, by rw [if_neg Bool.false_ne_true], by rw [if_neg (by decide)]; exact hv.1.symm, hv.2.symm⟩
  obtain ⟨hcase, rfl⟩ := hts
  have HR := Lib.hid hr0
  have HT := Lib.hid hT
  have htb := fun w (hb : Below W.heap.size W w) => table_Table.calls A0 c0 l0 ts r2 w (Kd.C_below hr0 hb) hc0 htab (hT.below hb)
  have HTB := Lib.hid htb
  clear hr0 hT htb htab hv h
  by_cases he : r2 = 0
  · subst he
    rw [if_pos rfl] at hcase
    obtain ⟨hl, rfl⟩ := hcase
    have HL := Lib.hid hl
    have HC0 := Lib.hid hc0
    clear hl hc0
    go_enter Tryd.func31, Tryd.ntmps31
    go_wp2_with (first
      | ((with_reducible refine gate_dst (N := 1) rfl ?_); refine box_event ?hg (N := 1) ?hd (cs := #[.slice A0 l0.length c0]) (t := 22) ?hr ?_; (case hd => rfl); (case hg => rfl); (case hr => first | (go_simp; done) | (go_simp; rfl)); intro g hg w1 hbox hb; have HX1 := Lib.hid (show Boxed w1 g 22 (.slice A0 l0.length c0) from hbox); have HB1 := Lib.hid hb; have zb := HX1.out.cell; clear hbox hb hg)
      | (go_at_call 18; refine (HTB.out _ HB1.out).mono ?_; rintro x w2 ⟨v2, rfl, hs2, hb2⟩; obtain ⟨B2, c2, rfl⟩ := Kd.R_slice (Kd.S_R hs2); have HS2 := Lib.hid (Kd.R_reads' (Kd.S_R hs2)).2.2; have HB2 := Lib.hid (HB1.out.trans (hb2.mono HB1.out.size)); have HX2 := Lib.hid (show Boxed w2 g 22 (.slice A0 l0.length c0) from blk_below HX1.out hb2); clear hs2 hb2)
      | (go_at_call 85; refine (contains_apart B2 c2 ts A0 c0 l0 g _ HS2.out HX2.out (Kd.C_below HR.out HB2.out) HC0.out HL.out).mono ?_; rintro x w3 ⟨rfl, hb3⟩; have HB3 := Lib.hid (HB2.out.trans (hb3.mono HB2.out.size)); clear hb3))
    go_ret2
    exact ⟨rfl, HB3.out⟩
  · rw [if_neg he] at hcase
    subst hcase
    have hne : (r2 != 0) = true := bne_iff_ne.2 he
    go_enter Tryd.func31, Tryd.ntmps31
    go_wp2_with (first
      | ((with_reducible refine gate_dst (N := 1) rfl ?_); refine box_event ?hg (N := 1) ?hd (cs := #[.slice A0 l0.length c0]) (t := 22) ?hr ?_; (case hd => rfl); (case hg => rfl); (case hr => first | (go_simp; done) | (go_simp; rfl)); intro g hg w1 hbox hb; have HX1 := Lib.hid (show Boxed w1 g 22 (.slice A0 l0.length c0) from hbox); have HB1 := Lib.hid hb; have zb := HX1.out.cell; clear hbox hb hg)
      | (go_at_call 18; refine (HTB.out _ HB1.out).mono ?_; rintro x w2 ⟨v2, rfl, hs2, hb2⟩; have HB2 := Lib.hid (HB1.out.trans (hb2.mono HB1.out.size)); clear hs2 hb2))
    go_ret2
    exact ⟨rfl, HB2.out⟩
end Go.Proofs.YtkjkceeopkfniaaDoor.P

/- text.Right, given: it asks that the table of kinds lies in the world. -/
import Derived.Test.YtkjkceeopkfniaaDoorGNames
import Derived.Test.YtkjkceeopkfniaaDoorP1
namespace Go.Proofs.YtkjkceeopkfniaaDoor.P
set_option linter.unusedVariables false
set_option linter.unusedSimpArgs false
open Go Go.RowKit Go.Proofs.YtkjkceeopkfniaaDoorW.PrintWords Go.Proofs.YtkjkceeopkfniaaDoorW.PrintLast Go.Proofs.YtkjkceeopkfniaaDoorW.PrintMore Go.Proofs.YtkjkceeopkfniaaDoor.U

/-- The kinds' words. -/
def wordK (k : Nat) : ByteArray := ⟨(([[98, 101, 103, 105, 110], [98, 101, 103, 117, 110], [114, 101, 97, 100], [103, 111, 116], [119, 114, 105, 116, 101], [119, 114, 111, 116, 101], [99, 111, 109, 109, 105, 116], [99, 111, 109, 109, 105, 116, 116, 101, 100], [99, 97, 110, 99, 101, 108], [97, 98, 111, 114, 116, 101, 100]] : List (List UInt8)).getD k []).toArray⟩
/-- The table of kinds lies in a world. -/
def KTab (w : World) : Prop := ∀ k : Nat, k < 10 → w.cell? ⟨0, k * 3, none⟩ = some (.string (wordK k)) ∧ w.cell? ⟨0, k * 3 + 1, none⟩ = some (.bool (varB k)) ∧ w.cell? ⟨0, k * 3 + 2, none⟩ = some (.bool (valB k))
theorem KTab.below {w w' : World} (h : KTab w) (hb : Below w.heap.size w w') : KTab w' := fun k hk => ⟨pw_cell_below hb (h k hk).1, pw_cell_below hb (h k hk).2.1, pw_cell_below hb (h k hk).2.2⟩
def inB (n lo hi : Int) : Bool := decide (lo ≤ n) && decide (n ≤ hi)
theorem in_any (n lo hi : Int) (w : World) : Calls Tryd.prog 148 #[.int .i64 n, .int .i64 lo, .int .i64 hi] w fun e w' => e = .returned (.bool (inB n lo hi)) ∧ w = w' := by
  by_cases h1 : lo ≤ n
  · have a1 : decide (lo ≤ n) = true := decide_eq_true h1
    by_cases h2 : n ≤ hi
    · have a2 : decide (n ≤ hi) = true := decide_eq_true h2
      have hb : inB n lo hi = true := by unfold inB; rw [a1, a2]; rfl
      rw [hb]
      clear hb
      go_enter Tryd.func148, Tryd.ntmps148
      go_wp2
      go_ret
      exact ⟨rfl, rfl⟩
    · have a2 : decide (n ≤ hi) = false := decide_eq_false h2
      have hb : inB n lo hi = false := by unfold inB; rw [a1, a2]; rfl
      rw [hb]
      clear hb
      go_enter Tryd.func148, Tryd.ntmps148
      go_wp2
      go_ret
      exact ⟨rfl, rfl⟩
  · have a1 : decide (lo ≤ n) = false := decide_eq_false h1
    have hb : inB n lo hi = false := by unfold inB; rw [a1]; rfl
    rw [hb]
    clear hb
    go_enter Tryd.func148, Tryd.ntmps148
    go_wp2
    go_ret
    exact ⟨rfl, rfl⟩
def rightB (e : S36) : Bool := inB e.f0 0 9 && (inB e.f1 0 9999 && (((inB e.f2 0 7 && varB e.f0) || (e.f2 == 0)) && ((inB e.f3 (-2147483648) 2147483647 && valB e.f0) || (e.f3 == 0))))
set_option maxHeartbeats 1000000 in
set_option maxRecDepth 100000 in
theorem right_any (ev : S36) (W : World) (hT : KTab W) : Calls Tryd.prog 134 #[.agg #[.int .i64 ev.f0, .int .i64 ev.f1, .int .i64 ev.f2, .int .i64 ev.f3]] W fun x w' => x = .returned (.bool (rightB ev)) ∧ Below W.heap.size W w' := by
  obtain ⟨f0, f1, f2, f3⟩ := ev
  obtain ⟨res, hres⟩ : ∃ res, res = rightB ⟨f0, f1, f2, f3⟩ := ⟨_, rfl⟩
  rw [← hres]
  unfold rightB at hres
  dsimp only at hres ⊢
  have KT := Lib.hid hT
  clear hT
  obtain ⟨i0, hi0⟩ : ∃ b, b = inB f0 0 9 := ⟨_, rfl⟩
  obtain ⟨i1, hi1⟩ : ∃ b, b = inB f1 0 9999 := ⟨_, rfl⟩
  obtain ⟨i2, hi2⟩ : ∃ b, b = inB f2 0 7 := ⟨_, rfl⟩
  obtain ⟨i3, hi3⟩ : ∃ b, b = inB f3 (-2147483648) 2147483647 := ⟨_, rfl⟩
  have c0 := fun w => Lib.hid (in_any f0 0 9 w)
  have c1 := fun w => Lib.hid (in_any f1 0 9999 w)
  have c2 := fun w => Lib.hid (in_any f2 0 7 w)
  have c3 := fun w => Lib.hid (in_any f3 (-2147483648) 2147483647 w)
  rw [← hi0, ← hi1, ← hi2, ← hi3] at hres
  rw [← hi0] at c0
  rw [← hi1] at c1
  rw [← hi2] at c2
  rw [← hi3] at c3
  have HR := Lib.hid hres
  have HI := Lib.hid hi0
  clear hres hi0 hi1 hi2 hi3
  cases i0 with
  | false =>
    go_enter Tryd.func134, Tryd.ntmps134
    go_wp2_with (first
      | ((with_reducible refine gate_dst (N := 1) rfl ?_); refine box_event ?hg (N := 1) ?hd (cs := #[.int .i64 f0, .int .i64 f1, .int .i64 f2, .int .i64 f3]) (t := 36) ?hr ?_; (case hd => rfl); (case hg => rfl); (case hr => first | (go_simp; done) | (go_simp; rfl)); intro g hg w1 hbox hb; have HB1 := Lib.hid hb; have z0 : w1.cell? ⟨g, 0, none⟩ = some (.int .i64 f0) := (blk_cell hbox 0).trans rfl; clear hbox hb hg)
      | (go_at_call 148; refine (c0 _).out.mono ?_; rintro x w2 ⟨rfl, rfl⟩))
    go_ret
    exact ⟨by rw [HR.out]; rfl, HB1.out⟩
  | true =>
    cases i1 with
    | false =>
      go_enter Tryd.func134, Tryd.ntmps134
      go_wp2_with (first
        | ((with_reducible refine gate_dst (N := 1) rfl ?_); refine box_event ?hg (N := 1) ?hd (cs := #[.int .i64 f0, .int .i64 f1, .int .i64 f2, .int .i64 f3]) (t := 36) ?hr ?_; (case hd => rfl); (case hg => rfl); (case hr => first | (go_simp; done) | (go_simp; rfl)); intro g hg w1 hbox hb; have HB1 := Lib.hid hb; have z0 : w1.cell? ⟨g, 0, none⟩ = some (.int .i64 f0) := (blk_cell hbox 0).trans rfl; have z1 : w1.cell? ⟨g, 1, none⟩ = some (.int .i64 f1) := (blk_cell hbox 1).trans rfl; clear hbox hb hg)
        | (go_at_call 148; first | (with_reducible refine (c0 _).out.mono ?_; rintro x w2 ⟨rfl, rfl⟩) | (with_reducible refine (c1 _).out.mono ?_; rintro x w2 ⟨rfl, rfl⟩)))
      go_ret
      exact ⟨by rw [HR.out]; rfl, HB1.out⟩
    | true =>
      have h09 : 0 ≤ f0 ∧ f0 ≤ 9 := by
        have := HI.out
        unfold inB at this
        simpa using this.symm
      obtain ⟨k, rfl⟩ := Int.eq_ofNat_of_zero_le h09.1
      have hk : k < 10 := by omega
      clear h09 HI
      go_enter Tryd.func134, Tryd.ntmps134
      go_upto_region 3 with (first
        | ((with_reducible refine gate_dst (N := 1) rfl ?_); refine box_event ?hg (N := 1) ?hd (cs := #[.int .i64 (k : Int), .int .i64 f1, .int .i64 f2, .int .i64 f3]) (t := 36) ?hr ?_; (case hd => rfl); (case hg => rfl); (case hr => first | (go_simp; done) | (go_simp; rfl)); intro g hg w1 hbox hb; have HBX := Lib.hid hbox; have HB1 := Lib.hid hb; have z0 : w1.cell? ⟨g, 0, none⟩ = some (.int .i64 (k : Int)) := (blk_cell hbox 0).trans rfl; have z1 : w1.cell? ⟨g, 1, none⟩ = some (.int .i64 f1) := (blk_cell hbox 1).trans rfl; clear hbox hb hg)
        | (go_at_call 148; first | (with_reducible refine (c0 _).out.mono ?_; rintro x w2 ⟨rfl, rfl⟩) | (with_reducible refine (c1 _).out.mono ?_; rintro x w2 ⟨rfl, rfl⟩)))
      have HKT : Hid (KTab w1) := Lib.hid (KT.out.below HB1.out)
      obtain ⟨vb, hvb⟩ : ∃ b, b = varB (k : Int) := ⟨_, rfl⟩
      obtain ⟨zb, hzb⟩ : ∃ b, b = valB (k : Int) := ⟨_, rfl⟩
      rw [← hvb, ← hzb] at HR
      go_cut [3] (fun v3 wx => ∃ g2, v3 = .pointer (some ⟨g2, 0, none⟩) ∧ Hid (wx.heap[g2]? = some (.cells #[.string (wordK k), .bool vb, .bool zb] 166 (0, 0))) ∧ Hid (wx.heap[g]? = some (.cells #[.int .i64 (k : Int), .int .i64 f1, .int .i64 f2, .int .i64 f3] 36 (0, 0))) ∧ Hid (Below W.heap.size W wx))
      case first =>
        obtain ⟨k0, k1, k2⟩ := HKT.out k hk
        rw [← hvb] at k1
        rw [← hzb] at k2
        clear hvb hzb
        have hk0 : (0 : Int) ≤ (k : Int) := by omega
        have hk1 : (k : Int) < 10 := by omega
        go_wp2_with (first
          | ((with_reducible refine gate_dst (N := 3) rfl ?_); refine box_event ?hg (N := 3) ?hd (cs := #[.string ⟨#[]⟩, .bool false, .bool false]) (t := 166) ?hr ?_; (case hd => rfl); (case hg => rfl); (case hr => first | (go_simp; done) | (go_simp; rfl)); intro g2 hg2 w2 hbox hb; have HBX2 := Lib.hid hbox; have HB2 := Lib.hid hb; have HG2 := Lib.hid hg2; have y0 : w2.cell? ⟨g2, 0, none⟩ = some (.string ⟨#[]⟩) := (blk_cell hbox 0).trans rfl; have y1 : w2.cell? ⟨g2, 1, none⟩ = some (.bool false) := (blk_cell hbox 1).trans rfl; have y2 : w2.cell? ⟨g2, 2, none⟩ = some (.bool false) := (blk_cell hbox 2).trans rfl; have x0 := blk_frozen hbox 0; have x1 := blk_frozen hbox 1; have x2 := blk_frozen hbox 2; clear hbox hb hg2))
        go_meet
        have hgl := blk_lt HBX.out
        have hne : g ≠ g2 := by have := HG2.out; omega
        refine ⟨g2, rfl, Lib.hid ?_, Lib.hid ?_, Lib.hid ?_⟩
        · have := blk_set (blk_set (blk_set HBX2.out 0 (.string (wordK k))) 1 (.bool vb)) 2 (.bool zb)
          simpa using this
        · exact blk_far (p := ⟨g2, 2, none⟩) (blk_far (p := ⟨g2, 1, none⟩) (blk_far (p := ⟨g2, 0, none⟩) (blk_below HBX.out HB2.out) hne _) hne _) hne _
        · have hle : W.heap.size ≤ g2 := by have h1 := HG2.out; have h2 := HB1.out.size; omega
          exact (((HB1.out.trans (HB2.out.mono HB1.out.size)).setCell (p := ⟨g2, 0, none⟩) hle _).setCell (p := ⟨g2, 1, none⟩) hle _).setCell (p := ⟨g2, 2, none⟩) hle _
      case rest =>
      obtain ⟨g2, hv3, HK2, HE2, HBW⟩ := hcut
      subst hv3
      have z2 : wc.cell? ⟨g, 2, none⟩ = some (.int .i64 f2) := (blk_cell HE2.out 2).trans rfl
      have z3 : wc.cell? ⟨g, 3, none⟩ = some (.int .i64 f3) := (blk_cell HE2.out 3).trans rfl
      have y1 : wc.cell? ⟨g2, 1, none⟩ = some (.bool vb) := (blk_cell HK2.out 1).trans rfl
      have y2 : wc.cell? ⟨g2, 2, none⟩ = some (.bool zb) := (blk_cell HK2.out 2).trans rfl
      obtain ⟨e2, he2⟩ : ∃ b, b = (f2 == 0) := ⟨_, rfl⟩
      obtain ⟨e3, he3⟩ : ∃ b, b = (f3 == 0) := ⟨_, rfl⟩
      rw [← he2, ← he3] at HR
      replace he2 := he2.symm
      replace he3 := he3.symm
      clear hvb hzb HK2 HE2 HKT HBX HB1 z0 z1 KT hk
      cases i2 <;> cases vb <;> cases e2 <;> cases i3 <;> cases zb <;> cases e3
      all_goals
        go_wp2_with (first
          | (go_at_call 148; first | (with_reducible refine (c2 _).out.mono ?_; rintro x w2 ⟨rfl, rfl⟩) | (with_reducible refine (c3 _).out.mono ?_; rintro x w2 ⟨rfl, rfl⟩)))
        go_ret
        exact ⟨by rw [HR.out]; rfl, HBW.out⟩
/-- Right's test of one event. -/
theorem right1_any (ev : S36) (W : World) (hT : KTab W) : Calls Tryd.prog 133 #[.agg #[.int .i64 ev.f0, .int .i64 ev.f1, .int .i64 ev.f2, .int .i64 ev.f3]] W fun x w' => x = .returned (.bool (!rightB ev)) ∧ Below W.heap.size W w' := by
  obtain ⟨r, hr⟩ : ∃ r, r = rightB ev := ⟨_, rfl⟩
  have hc : ∀ w, KTab w → Calls Tryd.prog 134 #[.agg #[.int .i64 ev.f0, .int .i64 ev.f1, .int .i64 ev.f2, .int .i64 ev.f3]] w fun x w' => x = .returned (.bool r) ∧ Below w.heap.size w w' := by
    intro w hw; rw [hr]; exact right_any ev w hw
  rw [← hr]
  have HC := Lib.hid hc
  have KT := Lib.hid hT
  clear hc hr hT
  go_enter Tryd.func133, Tryd.ntmps133
  go_wp2_with (first
    | ((with_reducible refine gate_dst (N := 1) rfl ?_); refine box_event ?hg (N := 1) ?hd (cs := #[.int .i64 ev.f0, .int .i64 ev.f1, .int .i64 ev.f2, .int .i64 ev.f3]) (t := 36) ?hr ?_; (case hd => rfl); (case hg => rfl); (case hr => first | (go_simp; done) | (go_simp; rfl)); intro g hg w1 hbox hb; have HB1 := Lib.hid hb; have z0 : w1.cell? ⟨g, 0, none⟩ = some (.int .i64 ev.f0) := (blk_cell hbox 0).trans rfl; have z1 : w1.cell? ⟨g, 1, none⟩ = some (.int .i64 ev.f1) := (blk_cell hbox 1).trans rfl; have z2 : w1.cell? ⟨g, 2, none⟩ = some (.int .i64 ev.f2) := (blk_cell hbox 2).trans rfl; have z3 : w1.cell? ⟨g, 3, none⟩ = some (.int .i64 ev.f3) := (blk_cell hbox 3).trans rfl; clear hbox hb hg)
    | (go_at_call 134; refine (HC.out _ (KT.out.below HB1.out)).mono ?_; rintro x w2 ⟨rfl, hb2⟩; have HB2 := Lib.hid (HB1.out.trans (hb2.mono HB1.out.size)); clear hb2))
  go_ret
  exact ⟨rfl, HB2.out⟩
def idxE (g : S36 → Bool) : List S36 → Nat → Int
  | [], _ => -1
  | x :: t, i => if g x then i else idxE g t (i + 1)
theorem idxE_any (g : S36 → Bool) (l : List S36) : ∀ i, decide (idxE g l i ≥ 0) = l.any g := by
  induction l with
  | nil => intro i; rfl
  | cons x t ih =>
    intro i
    unfold idxE
    cases hg : g x with
    | true => simp [hg]
    | false => simp only [Bool.false_eq_true, if_false]; rw [ih]; simp [hg]
theorem idxE_drop (g : S36 → Bool) (l : List S36) (k : Nat) (h : k < l.length) : idxE g (l.drop k) k = if g (rd_T36 l (k : Int)) then (k : Int) else idxE g (l.drop (k + 1)) (k + 1) := by
  rw [List.drop_eq_getElem_cons h]
  have : rd_T36 l (k : Int) = l[k] := by unfold rd_T36; rw [Int.toNat_natCast, List.getD_eq_getElem?_getD, List.getElem?_eq_getElem h]; rfl
  rw [this]; rfl
set_option maxHeartbeats 1000000 in
theorem index_right (A : Option Addr) (c : Nat) (l : List S36) (W : World) (hr : Kd.C k36 W A l.length l) (hT : KTab W) :
    Calls Tryd.prog 81 #[.slice A l.length c, .func (.func 133) #[] #[]] W fun e w' => e = .returned (.int .i64 (idxE (fun x => !rightB x) l 0)) ∧ Below W.heap.size W w' := by
  have HE := Lib.hid hr
  have KT := Lib.hid hT
  have hmax : l.length ≤ 9223372036854775807 := hr.2.1
  obtain ⟨g, hg⟩ : ∃ g : S36 → Bool, g = fun x => !rightB x := ⟨_, rfl⟩
  rw [← hg]
  have hc : ∀ (ev : S36) w, KTab w → Calls Tryd.prog 133 #[.agg #[.int .i64 ev.f0, .int .i64 ev.f1, .int .i64 ev.f2, .int .i64 ev.f3]] w fun x w' => x = .returned (.bool (g ev)) ∧ Below w.heap.size w w' := by
    intro ev w hw; rw [hg]; exact right1_any ev w hw
  have HC := Lib.hid hc
  clear hr hg hT hc
  go_enter Tryd.func81, Tryd.ntmps81
  go_wp2
  go_loopw [8] (fun v8 wr => ∃ k : Nat, k ≤ l.length ∧ v8 = .int .i64 (k : Int) ∧ Hid (idxE g l 0 = idxE g (l.drop k) k) ∧ Hid (Below W.heap.size W wr)) (fun v8 _ => l.length - (intOf v8).toNat)
  case atStart => exact ⟨0, Nat.zero_le _, rfl, Lib.hid rfl, Lib.hid (Below.refl _ _)⟩
  case round =>
    obtain ⟨k, hk, rfl, hI, HB⟩ := hrel
    by_cases hlt : k < l.length
    · obtain ⟨adE, rfl, hx0, hx1, hx2, hx3⟩ := at_T36 (Kd.C_below HE.out HB.out) (k : Int) (by omega) (by omega)
      have hd := Lib.hid (idxE_drop g l k hlt)
      obtain ⟨ev, hev⟩ : ∃ ev, ev = rd_T36 l (k : Int) := ⟨_, rfl⟩
      rw [← hev] at hx0 hx1 hx2 hx3 hd
      rw [Int.toNat_natCast] at hx0 hx1 hx2 hx3
      clear hev
      have ho := HC.out ev wr (KT.out.below HB.out)
      cases hgx : g ev with
      | true =>
        rw [hgx] at ho
        have e1 := hd.out
        rw [hgx, if_pos rfl] at e1
        have e2 := Lib.hid (hI.out.trans e1)
        have HO := Lib.hid ho
        clear ho hgx hd hI e1
        go_wp2_with (go_at_call 133; refine HO.out.mono ?_; rintro e w' ⟨rfl, hb2⟩; have HB2 := Lib.hid (HB.out.trans (hb2.mono HB.out.size)); clear hb2)
        go_ret
        exact ⟨by rw [e2.out]; rfl, HB2.out⟩
      | false =>
        rw [hgx] at ho
        have e1 := hd.out
        rw [hgx, if_neg (by simp)] at e1
        have e2 := Lib.hid (hI.out.trans e1)
        have HO := Lib.hid ho
        clear ho hgx hd hI e1
        go_wp2_with (go_at_call 133; refine HO.out.mono ?_; rintro e w' ⟨rfl, hb2⟩; have HB2 := Lib.hid (HB.out.trans (hb2.mono HB.out.size)); clear hb2)
        go_roundw
        case rel => exact ⟨k + 1, by omega, by go_num, e2, HB2⟩
        case measure => simp [intOf]; omega
    · obtain rfl : k = l.length := by omega
      have e1 := hI.out
      rw [List.drop_length] at e1
      have e2 := Lib.hid e1
      clear hI e1
      go_wp2
      go_ret
      exact ⟨by rw [e2.out]; rfl, HB.out⟩
theorem contains_right (A : Option Addr) (c : Nat) (l : List S36) (W : World) (hr : Kd.C k36 W A l.length l) (hT : KTab W) :
    Calls Tryd.prog 132 #[.slice A l.length c, .func (.func 133) #[] #[]] W fun e w' => e = .returned (.bool (l.any fun x => !rightB x)) ∧ Below W.heap.size W w' := by
  have hi := index_right A c l W hr hT
  have ha := Lib.hid (idxE_any (fun x => !rightB x) l 0)
  obtain ⟨r, hr⟩ : ∃ r, r = idxE (fun x => !rightB x) l 0 := ⟨_, rfl⟩
  rw [← hr] at ha hi
  have HI := Lib.hid hi
  clear hr hi
  go_enter Tryd.func132, Tryd.ntmps132
  go_wp2_with (go_at_call 81; refine HI.out.mono ?_; rintro e w' ⟨rfl, hb⟩; have HB := Lib.hid hb; clear hb)
  go_ret
  exact ⟨by rw [← ha.out]; rfl, HB.out⟩
theorem names_run (evs : List S36) (hl : evs.length ≤ 1000) (d : Nat) : ∀ i : Nat, i + d = evs.length → text_names.l0 (d + evs.length + 2) (namesF (evs.take i)) evs (evs.length : Int) (i : Int) = some (namesF evs) := by
  induction d with
  | zero =>
    intro i hi
    rw [show 0 + evs.length + 2 = (evs.length + 1) + 1 by omega]
    simp only [text_names.l0]
    rw [if_neg (by omega), show i = evs.length by omega, List.take_length]
  | succ d ih =>
    intro i hi
    have e := ih (i + 1) (by omega)
    have hnl := names_len (evs.take i)
    rw [List.length_take] at hnl
    have e2 := contains_run (namesF (evs.take i)) (rd_T36 evs (i : Int)).f1 (by omega)
    have e3 : slices_Contains_int_int.f (d + evs.length + 2) (namesF (evs.take i)) (rd_T36 evs (i : Int)).f1 = some ((namesF (evs.take i)).contains (rd_T36 evs (i : Int)).f1) := at_rounds (fun k => slices_Contains_int_int.mono _ _ k) (by omega : (namesF (evs.take i)).length + 1 ≤ d + evs.length + 2) e2
    rw [take_snocE evs i (by omega), names_snoc] at e
    rw [show d + 1 + evs.length + 2 = (d + evs.length + 2) + 1 by omega]
    obtain ⟨q, hq⟩ : ∃ q, q = d + evs.length + 2 := ⟨_, rfl⟩
    rw [← hq] at e e3 ⊢
    simp only [text_names.l0]
    rw [if_pos (by omega), if_pos (by omega), if_pos (by omega), e3, Option.bind_some, w64 (by omega) (by omega), show ((i : Int) + 1) = ((i + 1 : Nat) : Int) by omega]
    unfold addN at e
    by_cases hc : (namesF (evs.take i)).contains (rd_T36 evs (i : Int)).f1 = true
    · rw [if_pos hc]
      rw [if_pos hc] at e
      exact e
    · rw [if_neg hc, if_pos (by omega)]
      rw [if_neg hc] at e
      exact e
theorem names_fun (evs : List S36) (hl : evs.length ≤ 1000) : text_names.f (evs.length + evs.length + 2) evs = some (namesF evs) := names_run evs hl evs.length 0 (by omega)
/-- May events be? -/
def rightsB (l : List S36) : Bool := decide (l.length ≤ 60) && ((!l.any fun x => !rightB x) && decide ((namesF l).length ≤ 6))
def text_Right.f (l : List S36) : Option Bool := some (rightsB l)
set_option maxHeartbeats 1000000 in
theorem text_Right.calls (A0 : Option Addr) (c0 : Nat) (l0 : List S36) (r : Bool) (w : World) (hr0 : Kd.C k36 w A0 l0.length l0) (hc0 : l0.length ≤ c0) (h : text_Right.f l0 = some r) (hT : KTab w) :
    Calls Tryd.prog 107 #[.slice A0 l0.length c0] w fun e w' => e = .returned (.bool r) ∧ Below w.heap.size w w' := by
  have hv : rightsB l0 = r := Option.some.inj h
  unfold rightsB at hv
  have hmax : l0.length ≤ 9223372036854775807 := hr0.2.1
  have HR := Lib.hid hr0
  have KT := Lib.hid hT
  clear hr0 hT h
  by_cases hlen : 60 < l0.length
  · rw [decide_eq_false (by omega), Bool.false_and] at hv
    subst hv
    have hd : decide ((60 : Int) < (l0.length : Int)) = true := decide_eq_true (by omega)
    go_enter Tryd.func107, Tryd.ntmps107
    go_wp2
    go_ret
    exact ⟨rfl, Below.refl _ _⟩
  · rw [decide_eq_true (by omega : l0.length ≤ 60), Bool.true_and] at hv
    have hd : decide ((60 : Int) < (l0.length : Int)) = false := decide_eq_false (by omega)
    have hcall := fun w' (hb : Below w.heap.size w w') => contains_right A0 c0 l0 w' (Kd.C_below HR.out hb) (KT.out.below hb)
    obtain ⟨q, hq⟩ : ∃ q, q = l0.any fun x => !rightB x := ⟨_, rfl⟩
    rw [← hq] at hcall hv
    have HC := Lib.hid hcall
    have hnm := fun w' (hb : Below w.heap.size w w') => text_names.calls (l0.length + l0.length + 2) A0 c0 l0 (namesF l0) w' (Kd.C_below HR.out hb) hc0 (names_fun l0 (by omega))
    have hnl := names_len l0
    obtain ⟨nms, hnms⟩ : ∃ nms, nms = namesF l0 := ⟨_, rfl⟩
    rw [← hnms] at hnm hv hnl
    have HN := Lib.hid hnm
    have HV := Lib.hid hv
    clear hcall hq hnm hnms hv
    cases q with
    | true =>
      go_enter Tryd.func107, Tryd.ntmps107
      go_wp2_with (first
        | (go_at_call 132; refine (HC.out _ (Below.refl _ _)).mono ?_; rintro x w2 ⟨rfl, hb2⟩; have HB2 := Lib.hid hb2; clear hb2))
      go_ret
      exact ⟨by rw [← HV.out]; rfl, HB2.out⟩
    | false =>
      by_cases h6 : nms.length ≤ 6
      · have hd6 : decide ((nms.length : Int) ≤ 6) = true := decide_eq_true (by omega)
        go_enter Tryd.func107, Tryd.ntmps107
        go_wp2_with (first
          | (go_at_call 132; refine (HC.out _ (Below.refl _ _)).mono ?_; rintro x w2 ⟨rfl, hb2⟩; have HB2 := Lib.hid hb2; clear hb2)
          | (go_at_call 135; refine (HN.out _ HB2.out).mono ?_; rintro x w3 ⟨v3, rfl, hR3, hb3⟩; obtain ⟨A3, c3, rfl⟩ := Kd.R_slice hR3; have HB3 := Lib.hid (HB2.out.trans (hb3.mono HB2.out.size)); clear hb3 hR3))
        go_ret
        exact ⟨by rw [← HV.out, decide_eq_true h6]; rfl, HB3.out⟩
      · have hd6 : decide ((nms.length : Int) ≤ 6) = false := decide_eq_false (by omega)
        go_enter Tryd.func107, Tryd.ntmps107
        go_wp2_with (first
          | (go_at_call 132; refine (HC.out _ (Below.refl _ _)).mono ?_; rintro x w2 ⟨rfl, hb2⟩; have HB2 := Lib.hid hb2; clear hb2)
          | (go_at_call 135; refine (HN.out _ HB2.out).mono ?_; rintro x w3 ⟨v3, rfl, hR3, hb3⟩; obtain ⟨A3, c3, rfl⟩ := Kd.R_slice hR3; have HB3 := Lib.hid (HB2.out.trans (hb3.mono HB2.out.size)); clear hb3 hR3))
        go_ret
        exact ⟨by rw [← HV.out, decide_eq_false h6]; rfl, HB3.out⟩
end Go.Proofs.YtkjkceeopkfniaaDoor.P

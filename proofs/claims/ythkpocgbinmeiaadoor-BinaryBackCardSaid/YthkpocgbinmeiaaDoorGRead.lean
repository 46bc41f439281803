/- The reader of binary, by hand: fail, number, most, signed. -/
import Derived.Test.YthkpocgbinmeiaaDoorUGetO
import Derived.Test.YthkpocgbinmeiaaDoorP5
import Derived.Test.YthkpocgbinmeiaaDoorProg
import Derived.LoopTactic
import Derived.WalkKit
import Derived.OwnWalk
import Derived.Outline
import Derived.Lib.Hide
import Derived.RegionTactic
import Derived.Deep.QuietTactic
import Derived.Deep.RegionHeld3
import Derived.BigQuiet
namespace Go.Proofs.YthkpocgbinmeiaaDoor.P
set_option linter.unusedVariables false
set_option linter.unusedSimpArgs false
open Go Go.RowKit Go.Proofs.YthkpocgbinmeiaaDoorW.PrintWords Go.Proofs.YthkpocgbinmeiaaDoorW.PrintLast Go.Proofs.YthkpocgbinmeiaaDoorW.PrintMore Go.Proofs.YthkpocgbinmeiaaDoor.U

/-- What a reader knows beside its bytes and its events. -/
structure RSt where
  pos : Int
  bad : Int
  wh : Int
/-- A reader at block g of a world. -/
def Rdr (W : World) (g : Nat) (A : Option Addr) (n c : Nat) (vo : Value) (s : RSt) : Prop := W.heap[g]? = some (.cells #[.slice A n c, .int .i64 s.pos, vo, .int .i64 s.bad, .int .i64 s.wh] 95 (0, 0))
def failS (s : RSt) (a e : Int) : RSt := if s.bad = 0 then ⟨s.pos, e, a⟩ else s
def numS (l : List Int) (e : Nat) (s : RSt) : Int × RSt := if s.bad = 0 then (if (getS (l.take e) s.pos).2.2 = 0 then ((getS (l.take e) s.pos).1, ⟨(getS (l.take e) s.pos).2.1, s.bad, s.wh⟩) else (0, ⟨s.pos, (getS (l.take e) s.pos).2.2, (getS (l.take e) s.pos).2.1⟩)) else (0, s)
section
variable {W : World} {g : Nat} {A : Option Addr} {n c : Nat} {vo : Value} {s : RSt}
theorem Rdr.cells (h : Rdr W g A n c vo s) : W.cell? ⟨g, 0, none⟩ = some (.slice A n c) ∧ W.cell? ⟨g, 1, none⟩ = some (.int .i64 s.pos) ∧ W.cell? ⟨g, 2, none⟩ = some vo ∧ W.cell? ⟨g, 3, none⟩ = some (.int .i64 s.bad) ∧ W.cell? ⟨g, 4, none⟩ = some (.int .i64 s.wh) :=
  ⟨(blk_cell h 0).trans rfl, (blk_cell h 1).trans rfl, (blk_cell h 2).trans rfl, (blk_cell h 3).trans rfl, (blk_cell h 4).trans rfl⟩
theorem Rdr.frozen (h : Rdr W g A n c vo s) (i : Nat) : W.frozen? ⟨g, i, none⟩ = false := blk_frozen h i
theorem Rdr.set_pos (h : Rdr W g A n c vo s) (x : Int) : Rdr (W.setCell ⟨g, 1, none⟩ (.int .i64 x)) g A n c vo ⟨x, s.bad, s.wh⟩ := by
  have := blk_set h 1 (.int .i64 x)
  simpa [Rdr] using this
theorem Rdr.set_out (h : Rdr W g A n c vo s) (x : Value) : Rdr (W.setCell ⟨g, 2, none⟩ x) g A n c x s := by
  have := blk_set h 2 x
  simpa [Rdr] using this
theorem Rdr.set_bad (h : Rdr W g A n c vo s) (x : Int) : Rdr (W.setCell ⟨g, 3, none⟩ (.int .i64 x)) g A n c vo ⟨s.pos, x, s.wh⟩ := by
  have := blk_set h 3 (.int .i64 x)
  simpa [Rdr] using this
theorem Rdr.set_wh (h : Rdr W g A n c vo s) (x : Int) : Rdr (W.setCell ⟨g, 4, none⟩ (.int .i64 x)) g A n c vo ⟨s.pos, s.bad, x⟩ := by
  have := blk_set h 4 (.int .i64 x)
  simpa [Rdr] using this
end
theorem Rdr.drewN {W : World} {g : Nat} {A : Option Addr} {n c : Nat} {vo : Value} {s : RSt} (h : Rdr W g A n c vo s) (m : Nat) : Rdr (W.drewN m) g A n c vo s := h
theorem Rdr.below {W W' : World} {g : Nat} {A : Option Addr} {n c : Nat} {vo : Value} {s : RSt} (h : Rdr W g A n c vo s) (hb : Below W.heap.size W W') : Rdr W' g A n c vo s := by
  have hlt := blk_lt h
  unfold Rdr at h ⊢
  rw [hb.block g hlt]; exact h
/-- fail. -/
theorem fail_run {W : World} {g : Nat} {A : Option Addr} {n c : Nat} {vo : Value} {s : RSt} (h : Rdr W g A n c vo s) (a e : Int) :
    Calls Tryd.prog 69 #[.pointer (some ⟨g, 0, none⟩), .int .i64 a, .int .i64 e] W fun x w' => x = .returned (.tuple #[]) ∧ Rdr w' g A n c vo (failS s a e) ∧ KeepBut W w' g none ∧ Below g W w' := by
  obtain ⟨c0, c1, c2, c3, c4⟩ := h.cells
  have f3 := h.frozen 3
  have f4 := h.frozen 4
  have HR := Lib.hid h
  clear h
  by_cases hb : s.bad = 0
  · have hb0 : (s.bad == 0) = true := by simpa using hb
    go_enter Tryd.func69, Tryd.ntmps69
    go_wp2
    first | go_end0 | ((try simp only [Exit.inBlock, Exit.then]); refine bodyPost_ret (results_none rfl _ _ _) rfl ?_)
    refine ⟨rfl, ?_, ((KeepBut.refl W g none).set_ 3 _).set_ 4 _, ((Below.refl g W).setCell (p := ⟨g, 3, none⟩) (Nat.le_refl _) _).setCell (p := ⟨g, 4, none⟩) (Nat.le_refl _) _⟩
    have := (HR.out.set_bad e).set_wh a
    unfold failS; rw [if_pos hb]; exact this
  · have hb0 : (s.bad == 0) = false := by simpa using hb
    go_enter Tryd.func69, Tryd.ntmps69
    go_wp2
    first | go_end0 | ((try simp only [Exit.inBlock, Exit.then]); refine bodyPost_ret (results_none rfl _ _ _) rfl ?_)
    refine ⟨rfl, ?_, KeepBut.refl W g none, Below.refl g W⟩
    unfold failS; rw [if_neg hb]; exact HR.out
set_option maxHeartbeats 1000000 in
/-- number. -/
theorem number_run {W : World} {g : Nat} {A : Option Addr} {l : List Int} {c : Nat} {vo : Value} {s : RSt} (hl : ∀ x ∈ l, 0 ≤ x ∧ x ≤ 255) (hlen : l.length ≤ 1000000) (h : Rdr W g A l.length c vo s) (hC : Kd.C (Kd.int .u8) W A l.length l) (hc : l.length ≤ c) (e : Nat) (he : e ≤ l.length) :
    Calls Tryd.prog 68 #[.pointer (some ⟨g, 0, none⟩), .int .i64 e] W fun x w' => x = .returned (.int .u64 (numS l e s).1) ∧ Rdr w' g A l.length c vo (numS l e s).2 ∧ KeepBut W w' g none ∧ Below g W w' := by
  obtain ⟨c0, c1, c2, c3, c4⟩ := h.cells
  have HR := Lib.hid h
  clear h
  by_cases hb : s.bad = 0
  · have hb0 : (s.bad != 0) = false := by simpa using hb
    obtain ⟨K, hK⟩ := (get_sameG (l.take e) (fun x hx => hl x (List.mem_of_mem_take hx)) (by rw [List.length_take]; omega) s.pos).1
    have hle : (l.take e).length = e := by rw [List.length_take]; omega
    obtain ⟨r1, r2, r3, hr⟩ : ∃ r1 r2 r3, getS (l.take e) s.pos = (r1, r2, r3) := ⟨_, _, _, rfl⟩
    have hgc : ∀ W', Kd.C (Kd.int .u8) W' A l.length l → Hid (Calls Tryd.prog 95 #[.slice A e c, .int .i64 s.pos] W' fun x w' => x = .returned (.tuple #[.int .u64 r1, .int .i64 r2, .int .i64 r3]) ∧ Drawn0 W' w') := by
      intro W' hC'
      have := varint_Get.calls K A c (l.take e) s.pos r1 r2 r3 W' (Kd.C_take (m := e) hC' (by omega)) (by omega) (by rw [← hr]; exact hK K (Nat.le_refl _))
      rw [hle] at this
      exact Lib.hid this
    have hns : numS l e s = if r3 = 0 then (r1, ⟨r2, s.bad, s.wh⟩) else (0, ⟨s.pos, r3, r2⟩) := by unfold numS; rw [if_pos hb, hr]
    rw [hns]
    have HC := Lib.hid hC
    have hec : e ≤ c := by omega
    have hei : (e : Int) ≤ l.length := by omega
    clear hC hK hns hr hl
    by_cases h3 : r3 = 0
    · have h30 : (r3 != 0) = false := by simpa using h3
      rw [if_pos h3]
      go_enter Tryd.func68, Tryd.ntmps68
      go_wp2_with (fail)
      go_region_held3 (fun w' => w'.cell? ⟨g, 0, none⟩ = some (.slice A l.length c) ∧ w'.cell? ⟨g, 1, none⟩ = some (.int .i64 s.pos))
        (first | exact ⟨c0, c1⟩ | exact ⟨HR2.out.cells.1, HR2.out.cells.2.1⟩)
        (first
          | (go_at_call 95; refine (hgc _ (Kd.C_drew HC.out)).out.mono ?_; rintro x w2 ⟨rfl, ⟨m, hm⟩⟩; have HR2 : Hid (Rdr w2 g A l.length c vo s) := Lib.hid (by rw [hm]; exact HR.out); have HK2 : Hid (KeepBut W w2 g none) := Lib.hid (by rw [hm]; exact KeepBut.refl W g none); have HB2 : Hid (Below g W w2) := Lib.hid (by rw [hm]; exact pw_below_drewN (below_drew (Below.refl g W)) m); clear hm))
      have f1 := HR2.out.frozen 1
      obtain ⟨_, d1, _⟩ := HR2.out.cells
      go_wp2
      go_ret
      exact ⟨rfl, HR2.out.set_pos r2, HK2.out.set_ 1 _, HB2.out.setCell (p := ⟨g, 1, none⟩) (Nat.le_refl _) _⟩
    · have h30 : (r3 != 0) = true := by simpa using h3
      rw [if_neg h3]
      go_enter Tryd.func68, Tryd.ntmps68
      go_wp2_with (fail)
      go_region_held3 (fun w' => w'.cell? ⟨g, 0, none⟩ = some (.slice A l.length c) ∧ w'.cell? ⟨g, 1, none⟩ = some (.int .i64 s.pos))
        (first | exact ⟨c0, c1⟩ | exact ⟨HR2.out.cells.1, HR2.out.cells.2.1⟩)
        (first
          | (go_at_call 95; refine (hgc _ (Kd.C_drew HC.out)).out.mono ?_; rintro x w2 ⟨rfl, ⟨m, hm⟩⟩; have HR2 : Hid (Rdr w2 g A l.length c vo s) := Lib.hid (by rw [hm]; exact HR.out); have HK2 : Hid (KeepBut W w2 g none) := Lib.hid (by rw [hm]; exact KeepBut.refl W g none); have HB2 : Hid (Below g W w2) := Lib.hid (by rw [hm]; exact pw_below_drewN (below_drew (Below.refl g W)) m); clear hm))
      go_wp2_with (first
        | (go_at_call 69; refine (fail_run HR2.out _ _).mono ?_; rintro x w3 ⟨rfl, hR3, hK3, hB3⟩; have HB3 := Lib.hid (HB2.out.trans hB3); have HR3 := Lib.hid hR3; have HK3 := Lib.hid (HK2.out.trans hK3 (.inl rfl)); clear hR3 hK3 hB3))
      go_ret
      have hf : failS s r2 r3 = ⟨s.pos, r3, r2⟩ := by unfold failS; rw [if_pos hb]
      rw [hf] at HR3
      exact ⟨rfl, HR3.out, HK3.out, HB3.out⟩
  · have hb0 : (s.bad != 0) = true := by simpa using hb
    go_enter Tryd.func68, Tryd.ntmps68
    go_wp2
    go_ret
    have hns : numS l e s = (0, s) := by unfold numS; rw [if_neg hb]
    rw [hns]
    exact ⟨rfl, HR.out, KeepBut.refl W g none, Below.refl g W⟩
theorem num_zero {l : List Int} {e : Nat} {s : RSt} (h : (numS l e s).2.bad ≠ 0) : (numS l e s).1 = 0 := by
  unfold numS at h ⊢
  by_cases hb : s.bad = 0
  · rw [if_pos hb] at h ⊢
    by_cases h3 : (getS (l.take e) s.pos).2.2 = 0
    · rw [if_pos h3] at h; exact absurd hb h
    · rw [if_neg h3]
  · rw [if_neg hb]
theorem num_ok {l : List Int} (hl : ∀ x ∈ l, 0 ≤ x ∧ x ≤ 255) {e : Nat} (he : e ≤ l.length) {s : RSt} (h : (numS l e s).2.bad = 0) : 0 ≤ s.pos ∧ 0 ≤ (numS l e s).1 ∧ (numS l e s).1 < 18446744073709551616 ∧ s.pos < (numS l e s).2.pos ∧ (numS l e s).2.pos ≤ e := by
  unfold numS at h ⊢
  by_cases hb : s.bad = 0
  · rw [if_pos hb] at h ⊢
    by_cases h3 : (getS (l.take e) s.pos).2.2 = 0
    · rw [if_pos h3]
      obtain ⟨a1, a2, a3, a4, a5⟩ := getS_ok (l.take e) (fun x hx => hl x (List.mem_of_mem_take hx)) s.pos h3
      rw [List.length_take, Nat.min_eq_left he] at a5
      exact ⟨a1, a2, a3, a4, a5⟩
    · rw [if_neg h3] at h; exact absurd h h3
  · rw [if_neg hb] at h; exact absurd h hb
def mostS (l : List Int) (e t : Nat) (s : RSt) : Int × RSt := if (numS l e s).2.bad = 0 ∧ (t : Int) < (numS l e s).1 then (0, failS (numS l e s).2 s.pos 3) else numS l e s
set_option maxHeartbeats 1000000 in
/-- most. -/
theorem most_run {W : World} {g : Nat} {A : Option Addr} {l : List Int} {c : Nat} {vo : Value} {s : RSt} (hl : ∀ x ∈ l, 0 ≤ x ∧ x ≤ 255) (hlen : l.length ≤ 1000000) (h : Rdr W g A l.length c vo s) (hC : Kd.C (Kd.int .u8) W A l.length l) (hc : l.length ≤ c) (e t : Nat) (he : e ≤ l.length) (ht : t ≤ 10000) :
    Calls Tryd.prog 96 #[.pointer (some ⟨g, 0, none⟩), .int .i64 e, .int .i64 t] W fun x w' => x = .returned (.int .i64 (mostS l e t s).1) ∧ Rdr w' g A l.length c vo (mostS l e t s).2 ∧ KeepBut W w' g none ∧ Below g W w' := by
  obtain ⟨c0, c1, c2, c3, c4⟩ := h.cells
  have hnum := number_run hl hlen h hC hc e he
  have hz := @num_zero l e s
  have hok := @num_ok l hl e he s
  unfold mostS
  obtain ⟨n, s1, hn⟩ : ∃ n s1, numS l e s = (n, s1) := ⟨_, _, rfl⟩
  rw [hn] at hnum hz hok ⊢
  dsimp only at hnum hz hok ⊢
  have HN := Lib.hid hnum
  clear hnum hn h hC hl
  by_cases hb : s1.bad = 0
  · obtain ⟨_, hn0, hn1, _, _⟩ := hok hb
    clear hz hok
    have hb0 : (s1.bad == 0) = true := by simpa using hb
    have hwt : IntKind.u64.wrap (t : Int) = t := wu64 (by omega) (by omega)
    by_cases hgt : (t : Int) < n
    · have hd : decide ((t : Int) < n) = true := decide_eq_true hgt
      rw [if_pos ⟨hb, hgt⟩]
      go_enter Tryd.func96, Tryd.ntmps96
      go_wp2_with (first
        | (go_at_call 68; refine HN.out.mono ?_; rintro x w2 ⟨rfl, hR2, hK2, hB2⟩; have HB2 := Lib.hid hB2; have HR2 := Lib.hid hR2; have HK2 := Lib.hid hK2; obtain ⟨_, d1, _, d3, _⟩ := hR2.cells; clear hR2 hK2 hB2 c0 c1 c2 c3 c4)
        | (go_at_call 69; refine (fail_run HR2.out _ _).mono ?_; rintro x w3 ⟨rfl, hR3, hK3, hB3⟩; have HB3 := Lib.hid (HB2.out.trans hB3); have HR3 := Lib.hid hR3; have HK3 := Lib.hid (HK2.out.trans hK3 (.inl rfl)); clear hR3 hK3 hB3))
      go_ret
      exact ⟨rfl, HR3.out, HK3.out, HB3.out⟩
    · have hd : decide ((t : Int) < n) = false := decide_eq_false hgt
      rw [if_neg (fun h => hgt h.2)]
      have hwn : wrap64 n = n := Go.Proofs.YthkpocgbinmeiaaDoor.U.w64 (by omega) (by omega)
      go_enter Tryd.func96, Tryd.ntmps96
      go_wp2_with (first
        | (go_at_call 68; refine HN.out.mono ?_; rintro x w2 ⟨rfl, hR2, hK2, hB2⟩; have HB2 := Lib.hid hB2; have HR2 := Lib.hid hR2; have HK2 := Lib.hid hK2; obtain ⟨_, d1, _, d3, _⟩ := hR2.cells; clear hR2 hK2 hB2 c0 c1 c2 c3 c4))
      go_ret
      exact ⟨by first | rfl | (simp [hwn]; done), HR2.out, HK2.out, HB2.out⟩
  · obtain rfl := hz hb
    have hb0 : (s1.bad == 0) = false := by simpa using hb
    rw [if_neg (fun h => hb h.1)]
    clear hz hok
    go_enter Tryd.func96, Tryd.ntmps96
    go_wp2_with (first
      | (go_at_call 68; refine HN.out.mono ?_; rintro x w2 ⟨rfl, hR2, hK2, hB2⟩; have HB2 := Lib.hid hB2; have HR2 := Lib.hid hR2; have HK2 := Lib.hid hK2; obtain ⟨_, d1, _, d3, _⟩ := hR2.cells; clear hR2 hK2 hB2 c0 c1 c2 c3 c4))
    go_ret
    exact ⟨rfl, HR2.out, HK2.out, HB2.out⟩
def zagS (n : Int) : Int := Go.bits .xor .i64 (wrap64 (n / 2)) (wrap64 (-(wrap64 (Go.bits .and .u64 n 1))))
def signedS (l : List Int) (e : Nat) (s : RSt) : Int × RSt := if zagS (numS l e s).1 < -2147483648 ∨ 2147483647 < zagS (numS l e s).1 then (0, failS (numS l e s).2 s.pos 3) else (zagS (numS l e s).1, (numS l e s).2)
set_option maxHeartbeats 1000000 in
/-- signed. -/
theorem signed_run {W : World} {g : Nat} {A : Option Addr} {l : List Int} {c : Nat} {vo : Value} {s : RSt} (hl : ∀ x ∈ l, 0 ≤ x ∧ x ≤ 255) (hlen : l.length ≤ 1000000) (h : Rdr W g A l.length c vo s) (hC : Kd.C (Kd.int .u8) W A l.length l) (hc : l.length ≤ c) (e : Nat) (he : e ≤ l.length) :
    Calls Tryd.prog 98 #[.pointer (some ⟨g, 0, none⟩), .int .i64 e] W fun x w' => x = .returned (.int .i64 (signedS l e s).1) ∧ Rdr w' g A l.length c vo (signedS l e s).2 ∧ KeepBut W w' g none ∧ Below g W w' := by
  obtain ⟨c0, c1, c2, c3, c4⟩ := h.cells
  have hnum := number_run hl hlen h hC hc e he
  unfold signedS
  obtain ⟨n, s1, hn⟩ : ∃ n s1, numS l e s = (n, s1) := ⟨_, _, rfl⟩
  rw [hn] at hnum ⊢
  dsimp only at hnum ⊢
  have HN := Lib.hid hnum
  obtain ⟨z, hz⟩ : ∃ z, z = zagS n := ⟨_, rfl⟩
  have hzag := fun W => Lib.hid (varint_Zag.calls n z W (by rw [hz]; rfl))
  rw [← hz]
  clear hnum hn h hC hl hz
  by_cases hgt : z < -2147483648 ∨ 2147483647 < z
  · rw [if_pos hgt]
    rcases hgt with hlo | hhi
    · have hd : decide (z < -2147483648) = true := decide_eq_true hlo
      go_enter Tryd.func98, Tryd.ntmps98
      go_wp2_with (first
        | (go_at_call 68; refine HN.out.mono ?_; rintro x w2 ⟨rfl, hR2, hK2, hB2⟩; have HB2 := Lib.hid hB2; have HR2 := Lib.hid hR2; have HK2 := Lib.hid hK2; clear hR2 hK2 hB2 c0 c1 c2 c3 c4)
        | (go_at_call 110; refine (hzag _).out.mono ?_; rintro x w3 ⟨rfl, ⟨m, rfl⟩⟩)
        | (go_at_call 69; refine (fail_run (HR2.out.drewN m) _ _).mono ?_; rintro x w3 ⟨rfl, hR3, hK3, hB3⟩; have HB3 := Lib.hid ((pw_below_drewN HB2.out m).trans hB3); have HR3 := Lib.hid hR3; have HK3 := Lib.hid ((keep_drewN HK2.out m).trans hK3 (.inl rfl)); clear hR3 hK3 hB3))
      go_ret
      exact ⟨rfl, HR3.out, HK3.out, HB3.out⟩
    · have hd : decide (z < -2147483648) = false := decide_eq_false (by omega)
      have hd2 : decide (2147483647 < z) = true := decide_eq_true hhi
      have hnl : ¬ z < -2147483648 := by omega
      go_enter Tryd.func98, Tryd.ntmps98
      go_wp2_with (first
        | (go_at_call 68; refine HN.out.mono ?_; rintro x w2 ⟨rfl, hR2, hK2, hB2⟩; have HB2 := Lib.hid hB2; have HR2 := Lib.hid hR2; have HK2 := Lib.hid hK2; clear hR2 hK2 hB2 c0 c1 c2 c3 c4)
        | (go_at_call 110; refine (hzag _).out.mono ?_; rintro x w3 ⟨rfl, ⟨m, rfl⟩⟩)
        | (go_at_call 69; refine (fail_run (HR2.out.drewN m) _ _).mono ?_; rintro x w3 ⟨rfl, hR3, hK3, hB3⟩; have HB3 := Lib.hid ((pw_below_drewN HB2.out m).trans hB3); have HR3 := Lib.hid hR3; have HK3 := Lib.hid ((keep_drewN HK2.out m).trans hK3 (.inl rfl)); clear hR3 hK3 hB3))
      go_ret
      exact ⟨rfl, HR3.out, HK3.out, HB3.out⟩
  · rw [if_neg hgt]
    have hd : decide (z < -2147483648) = false := decide_eq_false (by omega)
    have hd2 : decide (2147483647 < z) = false := decide_eq_false (by omega)
    have hnl : ¬ z < -2147483648 := by omega
    have hnl2 : ¬ 2147483647 < z := by omega
    go_enter Tryd.func98, Tryd.ntmps98
    go_wp2_with (first
      | (go_at_call 68; refine HN.out.mono ?_; rintro x w2 ⟨rfl, hR2, hK2, hB2⟩; have HB2 := Lib.hid hB2; have HR2 := Lib.hid hR2; have HK2 := Lib.hid hK2; clear hR2 hK2 hB2 c0 c1 c2 c3 c4)
      | (go_at_call 110; refine (hzag _).out.mono ?_; rintro x w3 ⟨rfl, ⟨m, rfl⟩⟩))
    go_ret
    exact ⟨rfl, HR2.out.drewN m, keep_drewN HK2.out m, pw_below_drewN HB2.out m⟩
end Go.Proofs.YthkpocgbinmeiaaDoor.P

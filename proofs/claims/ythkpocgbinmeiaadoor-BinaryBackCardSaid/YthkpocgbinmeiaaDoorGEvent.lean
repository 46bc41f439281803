/- The reader of binary, by hand: event. -/
import Derived.Test.YthkpocgbinmeiaaDoorGRead
import Derived.Test.YthkpocgbinmeiaaDoorGSeventh
import Derived.Test.YthkpocgbinmeiaaDoorP3
import Derived.Deep.DeepCutAuto
namespace Go.Proofs.YthkpocgbinmeiaaDoor.P
set_option linter.unusedVariables false
set_option linter.unusedSimpArgs false
open Go Go.RowKit Go.Proofs.YthkpocgbinmeiaaDoorW.PrintWords Go.Proofs.YthkpocgbinmeiaaDoorW.PrintLast Go.Proofs.YthkpocgbinmeiaaDoorW.PrintMore Go.Proofs.YthkpocgbinmeiaaDoor.U

def varB (k : Int) : Bool := k == 2 || k == 4
def valB (k : Int) : Bool := k == 3 || k == 4
/-- An event's body, from its kind's place on. -/
def bodyS (l : List Int) (e : Nat) (k : Int) (s : RSt) (evs : List S34) : RSt × S34 :=
  let m := mostS l e 9999 ⟨s.pos + 1, s.bad, s.wh⟩
  let s4 := if m.2.bad = 0 ∧ seventhB evs m.1 = true then failS m.2 (s.pos + 1) 5 else m.2
  let v := if varB k then mostS l e 7 s4 else (0, s4)
  let z := if valB k then signedS l e v.2 else (0, v.2)
  (if z.2.bad = 0 ∧ z.2.pos ≠ e then failS z.2 z.2.pos 2 else z.2, ⟨k, m.1, v.1, z.1⟩)
def evS (l : List Int) (s : RSt) (evs : List S34) : RSt × List S34 :=
  let n := numS l l.length s
  if n.2.bad ≠ 0 then (n.2, evs)
  else if (l.length : Int) - n.2.pos < n.1 then (failS n.2 l.length 4, evs)
  else if n.1 = 0 then (failS n.2 s.pos 2, evs)
  else if 10 ≤ rd l n.2.pos then (failS n.2 n.2.pos 2, evs)
  else ((bodyS l (n.2.pos + n.1).toNat (rd l n.2.pos) n.2 evs).1, evs ++ [(bodyS l (n.2.pos + n.1).toNat (rd l n.2.pos) n.2 evs).2])
theorem bodyS_of {l : List Int} {e : Nat} {k nm v z : Int} {s s2 s4 s5 s6 s7 : RSt} {evs : List S34} (hm : mostS l e 9999 ⟨s.pos + 1, s.bad, s.wh⟩ = (nm, s2)) (h4 : s4 = if (decide (s2.bad = 0) && seventhB evs nm) = true then failS s2 (s.pos + 1) 5 else s2)
    (hv : (if varB k then mostS l e 7 s4 else (0, s4)) = (v, s5)) (hz : (if valB k then signedS l e s5 else (0, s5)) = (z, s6)) (h7 : s7 = if (decide (s6.bad = 0) && decide (s6.pos ≠ e)) = true then failS s6 s6.pos 2 else s6) : bodyS l e k s evs = (s7, ⟨k, nm, v, z⟩) := by
  unfold bodyS
  simp only [hm]
  have e4 : (if s2.bad = 0 ∧ seventhB evs nm = true then failS s2 (s.pos + 1) 5 else s2) = s4 := by rw [h4]; simp
  simp only [e4, hv, hz]
  rw [h7]; simp
theorem infoEv : (Tryd.prog.info? 34).map (fun i => (i.zero, i.size, i.bytes)) = some (some (.agg #[(.int .i64 0), (.int .i64 0), (.int .i64 0), (.int .i64 0)]), 4, 32) := by kernel_rfl
theorem wrapE (x : Int) : IntKind.i64.wrap x = wrap64 x := by rw [IntKind.wrap_i64]; unfold wrap64; first | rfl | omega
theorem Rdr.grownE {w w1 : World} {g : Nat} {A : Option Addr} {n c base : Nat} {vo : Value} {s : RSt} {evs : List S34} (h : Rdr w g A n c vo s) (hO : Kd.R k34 34 w base (fun q => q ≠ g) vo evs) (hg : w.grownBy w1 vo.ownBlock) : Rdr w1 g A n c vo s :=
  blk_grown h hg (fun e => hO.1 g e.symm rfl)
theorem var_eq (k : Int) : binary_variable.f k = some (varB k) := by
  unfold binary_variable.f varB
  by_cases h : k = 2 <;> simp [h]
theorem val_eq (k : Int) : binary_value.f k = some (valB k) := by
  unfold binary_value.f valB
  by_cases h : k = 3 <;> simp [h]
/-- A reader and its events, in a world that grew out of another. -/
structure RdAt (w0 W : World) (g : Nat) (A : Option Addr) (l : List Int) (c : Nat) (s : RSt) (evs : List S34) : Prop where
  rdr : ∃ Ao co, Rdr W g A l.length c (.slice Ao evs.length co) s ∧ Kd.R k34 34 W w0.heap.size (fun k => k ≠ g) (.slice Ao evs.length co) evs
  below : Below w0.heap.size w0 W
  ge : w0.heap.size ≤ g
theorem RdAt.step {w0 W W2 : World} {g : Nat} {A : Option Addr} {l : List Int} {c : Nat} {s2 : RSt} {evs : List S34} {Ao : Option Addr} {co : Nat} (hR : Kd.R k34 34 W w0.heap.size (fun k => k ≠ g) (.slice Ao evs.length co) evs) (hB : Below w0.heap.size w0 W) (hg : w0.heap.size ≤ g) (h : Rdr W2 g A l.length c (.slice Ao evs.length co) s2) (hk : KeepBut W W2 g none) (hb : Below g W W2) : RdAt w0 W2 g A l c s2 evs :=
  ⟨⟨Ao, co, h, Kd.R_keep hR hk (fun _ h => h)⟩, hB.trans (hb.mono hg), hg⟩
/-- A reader, and an event that is being read, in a world that grew out of W. -/
structure EvS (W w : World) (g gb : Nat) (A : Option Addr) (n c : Nat) (vo : Value) (s : RSt) (k nm v z : Int) : Prop where
  rdr : Rdr w g A n c vo s
  ev : w.heap[gb]? = some (.cells #[.int .i64 k, .int .i64 nm, .int .i64 v, .int .i64 z] 34 (0, 0))
  keep : KeepBut W w g none
  below : Below g W w
  old : W.heap.size ≤ gb
  lt : g < W.heap.size
namespace EvS
variable {W w w1 : World} {g gb : Nat} {A : Option Addr} {n c : Nat} {vo : Value} {s s1 : RSt} {k nm v z : Int}
theorem ne (h : EvS W w g gb A n c vo s k nm v z) : gb ≠ g := by have := h.old; have := h.lt; omega
theorem drewN (h : EvS W w g gb A n c vo s k nm v z) (m : Nat) : EvS W (w.drewN m) g gb A n c vo s k nm v z := ⟨h.rdr.drewN m, h.ev, keep_drewN h.keep m, pw_below_drewN h.below m, h.old, h.lt⟩
theorem call (h : EvS W w g gb A n c vo s k nm v z) (hr : Rdr w1 g A n c vo s1) (hk : KeepBut w w1 g none) (hb : Below g w w1) : EvS W w1 g gb A n c vo s1 k nm v z :=
  ⟨hr, hk.blk h.ev h.ne (by simp), h.keep.trans hk (.inl rfl), h.below.trans hb, h.old, h.lt⟩
theorem grow (h : EvS W w g gb A n c vo s k nm v z) (hb : Below w.heap.size w w1) : EvS W w1 g gb A n c vo s k nm v z :=
  h.call (h.rdr.below hb) (KeepBut.of_below hb g none) (hb.mono (Nat.le_of_lt (blk_lt h.rdr)))
theorem far (h : EvS W w g gb A n c vo s k nm v z) (i : Nat) (u : Value) : Rdr (w.setCell ⟨gb, i, none⟩ u) g A n c vo s ∧ KeepBut W (w.setCell ⟨gb, i, none⟩ u) g none ∧ Below g W (w.setCell ⟨gb, i, none⟩ u) :=
  ⟨blk_far h.rdr (p := ⟨gb, i, none⟩) (fun e => h.ne e.symm) u, keep_far h.keep (p := ⟨gb, i, none⟩) h.old u, h.below.setCell (p := ⟨gb, i, none⟩) (by have := h.old; have := h.lt; simp; omega) u⟩
theorem set0 (h : EvS W w g gb A n c vo s k nm v z) (x : Int) : EvS W (w.setCell ⟨gb, 0, none⟩ (.int .i64 x)) g gb A n c vo s x nm v z := ⟨(h.far 0 _).1, blk_put h.ev 0 _ (by simp), (h.far 0 _).2.1, (h.far 0 _).2.2, h.old, h.lt⟩
theorem set1 (h : EvS W w g gb A n c vo s k nm v z) (x : Int) : EvS W (w.setCell ⟨gb, 1, none⟩ (.int .i64 x)) g gb A n c vo s k x v z := ⟨(h.far 1 _).1, blk_put h.ev 1 _ (by simp), (h.far 1 _).2.1, (h.far 1 _).2.2, h.old, h.lt⟩
theorem set2 (h : EvS W w g gb A n c vo s k nm v z) (x : Int) : EvS W (w.setCell ⟨gb, 2, none⟩ (.int .i64 x)) g gb A n c vo s k nm x z := ⟨(h.far 2 _).1, blk_put h.ev 2 _ (by simp), (h.far 2 _).2.1, (h.far 2 _).2.2, h.old, h.lt⟩
theorem set3 (h : EvS W w g gb A n c vo s k nm v z) (x : Int) : EvS W (w.setCell ⟨gb, 3, none⟩ (.int .i64 x)) g gb A n c vo s k nm v x := ⟨(h.far 3 _).1, blk_put h.ev 3 _ (by simp), (h.far 3 _).2.1, (h.far 3 _).2.2, h.old, h.lt⟩
theorem cells (h : EvS W w g gb A n c vo s k nm v z) : w.cell? ⟨gb, 0, none⟩ = some (.int .i64 k) ∧ w.cell? ⟨gb, 1, none⟩ = some (.int .i64 nm) ∧ w.cell? ⟨gb, 2, none⟩ = some (.int .i64 v) ∧ w.cell? ⟨gb, 3, none⟩ = some (.int .i64 z) :=
  ⟨(blk_cell h.ev 0).trans rfl, (blk_cell h.ev 1).trans rfl, (blk_cell h.ev 2).trans rfl, (blk_cell h.ev 3).trans rfl⟩
theorem frozen (h : EvS W w g gb A n c vo s k nm v z) (i : Nat) : w.frozen? ⟨gb, i, none⟩ = false := blk_frozen h.ev i
theorem pos (h : EvS W w g gb A n c vo s k nm v z) (x : Int) : EvS W (w.setCell ⟨g, 1, none⟩ (.int .i64 x)) g gb A n c vo ⟨x, s.bad, s.wh⟩ k nm v z := ⟨h.rdr.set_pos x, blk_far h.ev (p := ⟨g, 1, none⟩) h.ne _, h.keep.set_ 1 _, h.below.setCell (p := ⟨g, 1, none⟩) (Nat.le_refl _) _, h.old, h.lt⟩
theorem start (hr : Rdr w g A n c vo s) (hk : KeepBut W w g none) (hb : Below g W w) (hg : g < W.heap.size) : EvS W (w.alloc (.cells #[.int .i64 k, .int .i64 0, .int .i64 0, .int .i64 0] 34)).drew g w.heap.size A n c vo s k 0 0 0 :=
  ⟨blk_drew (blk_alloc hr _), blk_drew (blk_new _ _), keep_drew (keep_alloc hk _), (hb.alloc (Nat.le_of_lt (blk_lt hr)) _).drew, hk.1, hg⟩
end EvS
set_option maxHeartbeats 1000000 in
set_option maxRecDepth 100000 in
theorem event_run {w0 W : World} {g : Nat} {A : Option Addr} {l : List Int} {c : Nat} {s : RSt} {evs : List S34} (hl : ∀ x ∈ l, 0 ≤ x ∧ x ≤ 255) (hlen : l.length ≤ 1000000) (h : RdAt w0 W g A l c s evs) (hC : Kd.C (Kd.int .u8) w0 A l.length l) (hc : l.length ≤ c) (hb : s.bad = 0) (hev : evs.length ≤ 100) :
    Calls Tryd.prog 70 #[.pointer (some ⟨g, 0, none⟩)] W fun x w' => x = .returned (.tuple #[]) ∧ RdAt w0 w' g A l c (evS l s evs).1 (evS l s evs).2 := by
  obtain ⟨⟨Ao, co, hR, hO⟩, hB, hg⟩ := h
  obtain ⟨c0, c1, c2, c3, c4⟩ := hR.cells
  have hgw := blk_lt hR
  have hCW := Kd.C_below hC hB
  have hnum := number_run hl hlen hR hCW hc l.length (Nat.le_refl _)
  have hok := @num_ok l hl l.length (Nat.le_refl _) s
  obtain ⟨res, hres⟩ : ∃ res, res = evS l s evs := ⟨_, rfl⟩
  rw [← hres]
  unfold evS at hres
  obtain ⟨n, s1, hn⟩ : ∃ n s1, numS l l.length s = (n, s1) := ⟨_, _, rfl⟩
  rw [hn] at hnum hok hres
  dsimp only at hnum hok hres
  have HN := Lib.hid hnum
  have HO := Lib.hid hO
  have HB := Lib.hid hB
  have HG := Lib.hid hg
  clear hnum hn hR hCW hO hB hg
  by_cases hb1 : s1.bad = 0
  · obtain ⟨hp0, hn0, hn1, hp1, hp2⟩ := hok hb1
    rw [if_neg (by rw [hb1]; simp)] at hres
    have hbb : (s1.bad != 0) = false := by simpa using hb1
    clear hok
    by_cases hgt : (l.length : Int) - s1.pos < n
    · rw [if_pos hgt] at hres
      subst hres
      have hd : decide ((l.length : Int) - s1.pos < n) = true := decide_eq_true hgt
      go_enter Tryd.func70, Tryd.ntmps70
      go_upto_region 3 with (first
        | (go_at_call 68; refine HN.out.mono ?_; rintro x w2 ⟨rfl, hR2, hK2, hB2⟩; have HR2 := Lib.hid hR2; have HK2 := Lib.hid hK2; have HB2 := Lib.hid hB2; obtain ⟨d0, d1, _, d3, _⟩ := hR2.cells; clear hR2 hK2 hB2 c0 c1 c2 c3 c4))
      go_quiet (fail)
      go_wp2_with (first
        | (go_at_call 69; refine (fail_run (HR2.out.drewN nq) _ _).mono ?_; rintro x w3 ⟨rfl, hR3, hK3, hB3⟩; have H3 : Hid (RdAt w0 w3 g A l c (failS s1 l.length 4) evs) := Lib.hid (RdAt.step HO.out HB.out HG.out hR3 ((keep_drewN HK2.out nq).trans hK3 (.inl rfl)) ((pw_below_drewN HB2.out nq).trans hB3)); clear hR3 hK3 hB3))
      first | go_end0 | ((try simp only [Exit.inBlock, Exit.then]); refine bodyPost_ret (results_none rfl _ _ _) rfl ?_)
      exact ⟨rfl, H3.out⟩
    · rw [if_neg hgt] at hres
      have hd : decide ((l.length : Int) - s1.pos < n) = false := decide_eq_false hgt
      by_cases hz : n = 0
      · rw [if_pos hz] at hres
        subst hres
        have hzb : (n == 0) = true := by simpa using hz
        clear hz
        go_enter Tryd.func70, Tryd.ntmps70
        go_upto_region 3 with (first
          | (go_at_call 68; refine HN.out.mono ?_; rintro x w2 ⟨rfl, hR2, hK2, hB2⟩; have HR2 := Lib.hid hR2; have HK2 := Lib.hid hK2; have HB2 := Lib.hid hB2; obtain ⟨d0, d1, _, d3, _⟩ := hR2.cells; clear hR2 hK2 hB2 c0 c1 c2 c3 c4))
        go_quiet (fail)
        go_wp2_with (first
          | (go_at_call 69; refine (fail_run (HR2.out.drewN nq) _ _).mono ?_; rintro x w3 ⟨rfl, hR3, hK3, hB3⟩; have H3 : Hid (RdAt w0 w3 g A l c (failS s1 s.pos 2) evs) := Lib.hid (RdAt.step HO.out HB.out HG.out hR3 ((keep_drewN HK2.out nq).trans hK3 (.inl rfl)) ((pw_below_drewN HB2.out nq).trans hB3)); clear hR3 hK3 hB3))
        first | go_end0 | ((try simp only [Exit.inBlock, Exit.then]); refine bodyPost_ret (results_none rfl _ _ _) rfl ?_)
        exact ⟨rfl, H3.out⟩
      · rw [if_neg hz] at hres
        have hzb : (n == 0) = false := by simpa using hz
        obtain ⟨pos1, bad1, wh1⟩ := s1
        dsimp only at hb1 hp0 hp1 hp2 hres hgt hbb hd
        subst hb1
        obtain ⟨p1, rfl⟩ := Int.eq_ofNat_of_zero_le (show 0 ≤ pos1 by omega)
        obtain ⟨nn, rfl⟩ := Int.eq_ofNat_of_zero_le hn0
        have hk := hl (rd l (p1 : Int)) (Go.Proofs.YthkpocgbinmeiaaDoor.U.rd_memG (by omega) (by omega))
        obtain ⟨k, hke⟩ := Int.eq_ofNat_of_zero_le hk.1
        rw [hke] at hk hres
        have HKE := Lib.hid hke
        clear hke
        have HKW := Lib.hid ((wrapE (k : Int)).trans (Go.Proofs.YthkpocgbinmeiaaDoor.U.w64 (by omega) (by omega)))
        have HWP := Lib.hid (show wrap64 ((p1 : Int) + 1) = (p1 : Int) + 1 from Go.Proofs.YthkpocgbinmeiaaDoor.U.w64 (by omega) (by omega))
        have HCA := Lib.hid hC
        clear hC
        go_enter Tryd.func70, Tryd.ntmps70
        go_upto_region 3 with (first
          | (go_at_call 68; refine HN.out.mono ?_; rintro x w2 ⟨rfl, hR2, hK2, hB2⟩; have HR2 := Lib.hid hR2; have HK2 := Lib.hid hK2; have HB2 := Lib.hid hB2; obtain ⟨d0, d1, _, d3, _⟩ := hR2.cells; clear hR2 hK2 hB2 c0 c1 c2 c3 c4))
        go_quiet (fail)
        go_upto_region 8 with (fail)
        have hBw2 : Below w0.heap.size w0 w2 := HB.out.trans (HB2.out.mono HG.out)
        obtain ⟨adB, hAB, hcB⟩ := Kd.at_int (Kd.C_below HCA.out hBw2) (p1 : Int) (by omega) (by omega)
        subst hAB
        rw [Int.toNat_natCast, HKE.out] at hcB
        have e1 : (w2.drewN nq).cell? ⟨g, 0, none⟩ = some (.slice (some adB) l.length c) := d0
        have e2 : (w2.drewN nq).cell? ⟨g, 1, none⟩ = some (.int .i64 (p1 : Int)) := d1
        have e3 : (w2.drewN nq).cell? (adB.add p1) = some (.int .u8 (k : Int)) := hcB
        obtain ⟨W3, hW3⟩ : ∃ W3, W3 = w2.drewN nq := ⟨_, rfl⟩
        rw [← hW3] at e1 e2 e3 ⊢
        have HR3 : Hid (Rdr W3 g (some adB) l.length c (.slice Ao evs.length co) ⟨p1, 0, wh1⟩) := Lib.hid (by rw [hW3]; exact HR2.out.drewN nq)
        have HK3 : Hid (KeepBut W W3 g none) := Lib.hid (by rw [hW3]; exact keep_drewN HK2.out nq)
        have HB3 : Hid (Below g W W3) := Lib.hid (by rw [hW3]; exact pw_below_drewN HB2.out nq)
        clear hW3 HR2 HK2 HB2 d0 d1 d3 hcB hBw2
        have b0 : (0 : Int) ≤ (p1 : Int) := by omega
        have b1 : (p1 : Int) < (l.length : Int) := by omega
        have b2 : p1 < l.length := by omega
        have HGW := Lib.hid hgw
        clear hgw
        go_cut [5] (fun v5 w5 => ∃ gb, v5 = .pointer (some ⟨gb, 0, none⟩) ∧ Hid (EvS W w5 g gb (some adB) l.length c (.slice Ao evs.length co) ⟨p1, 0, wh1⟩ k 0 0 0))
        case first =>
          go_region_held3 (fun w' => w'.cell? ⟨g, 0, none⟩ = some (.slice (some adB) l.length c) ∧ w'.cell? ⟨g, 1, none⟩ = some (.int .i64 (p1 : Int)) ∧ w'.cell? (adB.add p1) = some (.int .u8 (k : Int)))
            (first | exact ⟨e1, e2, e3⟩ | exact ⟨pw_cell_below (below_drew (below_alloc (Below.refl _ _) _)) e1, pw_cell_below (below_drew (below_alloc (Below.refl _ _) _)) e2, pw_cell_below (below_drew (below_alloc (Below.refl _ _) _)) e3⟩)
            (fail)
          all_goals
            go_wp2_with fail
            go_meet
            exact ⟨_, rfl, Lib.hid (by rw [HKW.out]; exact EvS.start HR3.out HK3.out HB3.out HGW.out)⟩
        case rest =>
        obtain ⟨gb, hv5, HEV⟩ := hcut
        subst hv5
        clear e1 e2 e3 HR3 HK3 HB3 W3
        by_cases hk10 : (10 : Int) ≤ (k : Int)
        · rw [if_pos hk10] at hres
          subst hres
          obtain ⟨d0, d1, d2, d3, d4⟩ := HEV.out.rdr.cells
          obtain ⟨x0, x1, x2, x3⟩ := HEV.out.cells
          have hdk : decide ((10 : Int) ≤ (k : Int)) = true := decide_eq_true hk10
          go_wp2_with (first
            | (go_at_call 69; refine (fail_run HEV.out.rdr _ _).mono ?_; rintro x w3 ⟨rfl, hR3, hK3, hB3⟩; have H3 : Hid (RdAt w0 w3 g (some adB) l c (failS ⟨p1, 0, wh1⟩ p1 2) evs) := Lib.hid (RdAt.step HO.out HB.out HG.out hR3 (HEV.out.keep.trans hK3 (.inl rfl)) (HEV.out.below.trans hB3)); clear hR3 hK3 hB3))
          first | go_end0 | ((try simp only [Exit.inBlock, Exit.then]); refine bodyPost_ret (results_none rfl _ _ _) rfl ?_)
          exact ⟨rfl, H3.out⟩
        rw [if_neg hk10] at hres
        have hdk : decide ((10 : Int) ≤ (k : Int)) = false := decide_eq_false hk10
        obtain ⟨E, hE⟩ : ∃ E : Nat, E = p1 + nn := ⟨_, rfl⟩
        have hEi : (p1 : Int) + (nn : Int) = (E : Int) := by rw [hE]; omega
        have hEt : ((p1 : Int) + (nn : Int)).toNat = E := by rw [hE]; omega
        rw [hEt] at hres
        obtain ⟨nm, s2, hm⟩ : ∃ nm s2, mostS l E 9999 ⟨(p1 : Int) + 1, 0, wh1⟩ = (nm, s2) := ⟨_, _, rfl⟩
        obtain ⟨s4, h4⟩ : ∃ s4, s4 = if (decide (s2.bad = 0) && seventhB evs nm) = true then failS s2 ((p1 : Int) + 1) 5 else s2 := ⟨_, rfl⟩
        obtain ⟨v, s5, hv⟩ : ∃ v s5, (if varB k then mostS l E 7 s4 else (0, s4)) = (v, s5) := ⟨_, _, rfl⟩
        obtain ⟨z, s6, hz6⟩ : ∃ z s6, (if valB k then signedS l E s5 else (0, s5)) = (z, s6) := ⟨_, _, rfl⟩
        obtain ⟨s7, h7⟩ : ∃ s7, s7 = if (decide (s6.bad = 0) && decide (s6.pos ≠ E)) = true then failS s6 s6.pos 2 else s6 := ⟨_, rfl⟩
        rw [bodyS_of (s := ⟨p1, 0, wh1⟩) hm h4 hv hz6 h7] at hres
        subst hres
        have hmost : ∀ (w : World) (s' : RSt) (t : Nat) (gb' : Nat) (k' nm' v' z' : Int), t ≤ 10000 → EvS W w g gb' (some adB) l.length c (.slice Ao evs.length co) s' k' nm' v' z' → Calls Tryd.prog 96 #[.pointer (some ⟨g, 0, none⟩), .int .i64 ((p1 : Int) + (nn : Int)), .int .i64 (t : Int)] w fun x w' => x = .returned (.int .i64 (mostS l E t s').1) ∧ EvS W w' g gb' (some adB) l.length c (.slice Ao evs.length co) (mostS l E t s').2 k' nm' v' z' := by
          intro w s' t gb' k' nm' v' z' ht he
          rw [hEi]
          refine (most_run hl hlen he.rdr (Kd.C_below HCA.out (HB.out.trans (he.below.mono HG.out))) hc E t (by omega) ht).mono ?_
          rintro x w' ⟨rfl, hR, hK, hB⟩
          exact ⟨rfl, he.call hR hK hB⟩
        have hsig : ∀ (w : World) (s' : RSt) (gb' : Nat) (k' nm' v' z' : Int), EvS W w g gb' (some adB) l.length c (.slice Ao evs.length co) s' k' nm' v' z' → Calls Tryd.prog 98 #[.pointer (some ⟨g, 0, none⟩), .int .i64 ((p1 : Int) + (nn : Int))] w fun x w' => x = .returned (.int .i64 (signedS l E s').1) ∧ EvS W w' g gb' (some adB) l.length c (.slice Ao evs.length co) (signedS l E s').2 k' nm' v' z' := by
          intro w s' gb' k' nm' v' z' he
          rw [hEi]
          refine (signed_run hl hlen he.rdr (Kd.C_below HCA.out (HB.out.trans (he.below.mono HG.out))) hc E (by omega)).mono ?_
          rintro x w' ⟨rfl, hR, hK, hB⟩
          exact ⟨rfl, he.call hR hK hB⟩
        have hfl : ∀ (w : World) (s' : RSt) (gb' : Nat) (k' nm' v' z' a e : Int), EvS W w g gb' (some adB) l.length c (.slice Ao evs.length co) s' k' nm' v' z' → Calls Tryd.prog 69 #[.pointer (some ⟨g, 0, none⟩), .int .i64 a, .int .i64 e] w fun x w' => x = .returned (.tuple #[]) ∧ EvS W w' g gb' (some adB) l.length c (.slice Ao evs.length co) (failS s' a e) k' nm' v' z' := by
          intro w s' gb' k' nm' v' z' a e he
          refine (fail_run he.rdr a e).mono ?_
          rintro x w' ⟨rfl, hR, hK, hB⟩
          exact ⟨rfl, he.call hR hK hB⟩
        have hsev : ∀ (w : World) (s' : RSt) (gb' : Nat) (k' nm' v' z' x : Int), EvS W w g gb' (some adB) l.length c (.slice Ao evs.length co) s' k' nm' v' z' → Calls Tryd.prog 97 #[.pointer (some ⟨g, 0, none⟩), .int .i64 x] w fun e w' => e = .returned (.bool (seventhB evs x)) ∧ EvS W w' g gb' (some adB) l.length c (.slice Ao evs.length co) s' k' nm' v' z' := by
          intro w s' gb' k' nm' v' z' x he
          refine (seventh_run he.rdr (Kd.R_reads' (Kd.R_keep HO.out he.keep (fun _ h => h))).2.2 (by omega) x).mono ?_
          rintro e w' ⟨rfl, hB⟩
          exact ⟨rfl, he.grow hB⟩
        have HM := Lib.hid hmost
        have HSG := Lib.hid hsig
        have HFL := Lib.hid hfl
        have HSV := Lib.hid hsev
        have H4 := Lib.hid h4
        have HV := Lib.hid hv
        have HZ := Lib.hid hz6
        have H7 := Lib.hid h7
        have HMM := Lib.hid hm
        have HEI := Lib.hid hEi
        clear hmost hsig hfl hsev h4 hv hz6 h7 hm hEt hE hEi
        obtain ⟨d0, d1, d2, d3, d4⟩ := HEV.out.rdr.cells
        obtain ⟨x0, x1, x2, x3⟩ := HEV.out.cells
        have f1 := HEV.out.rdr.frozen 1
        have hwp := HWP.out
        have HL15 : Hid ((evs.length + 1) * 32 ≤ 140737488355328) := Lib.hid (by omega)
        clear hl hz hzb hd hbb hp0 hp1 hp2 hgt hn0 hn1 b0 b1 b2 hk hk10 hc hlen hev hb
        go_upto_region 14 with (first
          | (go_at_call 96; refine (HM.out _ _ 9999 _ _ _ _ _ (by omega) (HEV.out.pos _)).mono ?_; rintro x w2 ⟨rfl, hE2⟩; have y1 := hE2.frozen 1; obtain ⟨z0, z1, z2, z3⟩ := hE2.cells; rw [HMM.out] at hE2 ⊢; have HE2 := Lib.hid hE2; clear hE2 d0 d1 d2 d3 d4 x0 x1 x2 x3 f1))
        have HE3 := Lib.hid (HE2.out.set1 nm)
        obtain ⟨w3, hw3⟩ : ∃ w3, w3 = w2.setCell ⟨gb, 1, none⟩ (.int .i64 nm) := ⟨_, rfl⟩
        rw [← hw3] at HE3 ⊢
        clear hw3 HE2 y1 z0 z1 z2 z3 HEV hwp
        -- the seventh name
        go_cut [116] (fun v116 wx => v116 = .bool (decide (s2.bad = 0) && seventhB evs nm) ∧ Hid (EvS W wx g gb (some adB) l.length c (.slice Ao evs.length co) s2 k nm 0 0))
        case first =>
          obtain ⟨d0, d1, d2, d3, d4⟩ := HE3.out.rdr.cells
          obtain ⟨x0, x1, x2, x3⟩ := HE3.out.cells
          by_cases hb2 : s2.bad = 0
          · have hbb : (s2.bad == 0) = true := by simpa using hb2
            go_wp2_with (first
              | (go_at_call 97; refine (HSV.out _ _ _ _ _ _ _ _ HE3.out).mono ?_; rintro x wy ⟨rfl, hE4⟩; have HE4 := Lib.hid hE4; clear hE4))
            go_meet
            exact ⟨by simp [hb2], HE4⟩
          · have hbb : (s2.bad == 0) = false := by simpa using hb2
            go_wp2_with fail
            go_meet
            exact ⟨by simp [hb2], HE3⟩
        case rest =>
        obtain ⟨hv116, HE4⟩ := hcut
        subst hv116
        clear HE3
        generalize hb4 : (decide (s2.bad = 0) && seventhB evs nm) = b4
        rw [hb4] at H4
        clear hb4
        go_upto_if 116 with (fail)
        go_cut [] (fun wx => Hid (EvS W wx g gb (some adB) l.length c (.slice Ao evs.length co) s4 k nm 0 0))
        case first =>
          cases b4 with
          | true =>
            have hs4 := H4.out
            rw [if_pos rfl] at hs4
            subst hs4
            go_wp2_with (first
              | (go_at_call 69; refine (HFL.out _ _ _ _ _ _ _ _ _ HE4.out).mono ?_; rintro x wy ⟨rfl, hE5⟩; have HE5 := Lib.hid hE5; clear hE5))
            go_meet
            exact HE5
          | false =>
            have hs4 := H4.out
            rw [if_neg (by simp)] at hs4
            subst hs4
            go_wp2_with fail
            go_meet
            exact HE4
        case rest =>
        clear HE4
        have HE6 := hcut
        clear hcut
        -- the variable
        obtain ⟨x0, x1, x2, x3⟩ := HE6.out.cells
        go_upto_if 122 with (first
          | (go_at_call 39; refine (binary_variable.calls _ _ _ (var_eq _)).mono ?_; rintro x wy ⟨rfl, ⟨m, hm⟩⟩; have HE7 := Lib.hid (hm ▸ HE6.out.drewN m); clear hm x0 x1 x2 x3))
        clear HE6
        obtain ⟨vb, hvb⟩ : ∃ vb, vb = varB k := ⟨_, rfl⟩
        rw [← hvb] at HV ⊢
        clear hvb
        go_cut [] (fun wx => Hid (EvS W wx g gb (some adB) l.length c (.slice Ao evs.length co) s5 k nm v 0))
        case first =>
          cases vb with
          | true =>
            have hs := HV.out
            rw [if_pos rfl] at hs
            have HS := Lib.hid hs
            clear hs
            go_wp2_with (first
              | (go_at_call 96; refine (HM.out _ _ 7 _ _ _ _ _ (by omega) HE7.out).mono ?_; rintro x wy ⟨rfl, hE8⟩; have y2 := hE8.frozen 2; obtain ⟨z0, z1, z2, z3⟩ := hE8.cells; rw [HS.out] at hE8 ⊢; have HE8 := Lib.hid hE8; clear hE8))
            go_meet
            exact Lib.hid (HE8.out.set2 v)
          | false =>
            have hs := HV.out
            rw [if_neg (by simp)] at hs
            injection hs with hs1 hs2
            subst hs1 hs2
            go_wp2_with fail
            go_meet
            exact HE7
        case rest =>
        clear HE7
        have HE9 := hcut
        clear hcut
        -- the value
        obtain ⟨x0, x1, x2, x3⟩ := HE9.out.cells
        go_upto_if 129 with (first
          | (go_at_call 40; refine (binary_value.calls _ _ _ (val_eq _)).mono ?_; rintro x wy ⟨rfl, ⟨m, hm⟩⟩; have HE10 := Lib.hid (hm ▸ HE9.out.drewN m); clear hm x0 x1 x2 x3))
        clear HE9
        obtain ⟨vb, hvb⟩ : ∃ vb, vb = valB k := ⟨_, rfl⟩
        rw [← hvb] at HZ ⊢
        clear hvb
        go_cut [] (fun wx => Hid (EvS W wx g gb (some adB) l.length c (.slice Ao evs.length co) s6 k nm v z))
        case first =>
          cases vb with
          | true =>
            have hs := HZ.out
            rw [if_pos rfl] at hs
            have HS := Lib.hid hs
            clear hs
            go_wp2_with (first
              | (go_at_call 98; refine (HSG.out _ _ _ _ _ _ _ HE10.out).mono ?_; rintro x wy ⟨rfl, hE11⟩; have y3 := hE11.frozen 3; obtain ⟨z0, z1, z2, z3⟩ := hE11.cells; rw [HS.out] at hE11 ⊢; have HE11 := Lib.hid hE11; clear hE11))
            go_meet
            exact Lib.hid (HE11.out.set3 z)
          | false =>
            have hs := HZ.out
            rw [if_neg (by simp)] at hs
            injection hs with hs1 hs2
            subst hs1 hs2
            go_wp2_with fail
            go_meet
            exact HE10
        case rest =>
        clear HE10
        have HE12 := hcut
        clear hcut
        -- the end
        go_upto_region 20 with (fail)
        go_cut [147] (fun v147 wx => v147 = .bool (decide (s6.bad = 0) && decide (s6.pos ≠ E)) ∧ Hid (EvS W wx g gb (some adB) l.length c (.slice Ao evs.length co) s6 k nm v z))
        case first =>
          obtain ⟨d0, d1, d2, d3, d4⟩ := HE12.out.rdr.cells
          by_cases hb2 : s6.bad = 0
          · have hbb : (s6.bad == 0) = true := by simpa using hb2
            go_wp2_with fail
            go_meet
            exact ⟨by rw [HEI.out]; simp [hb2, bne, ne_eq]; by_cases he : s6.pos = (E : Int) <;> simp [he], HE12⟩
          · have hbb : (s6.bad == 0) = false := by simpa using hb2
            go_wp2_with fail
            go_meet
            exact ⟨by simp [hb2], HE12⟩
        case rest =>
        obtain ⟨hv147, HE13⟩ := hcut
        subst hv147
        clear HE12
        generalize hb4 : (decide (s6.bad = 0) && decide (s6.pos ≠ E)) = b4
        rw [hb4] at H7
        clear hb4
        go_upto_if 147 with (fail)
        go_cut [] (fun wx => Hid (EvS W wx g gb (some adB) l.length c (.slice Ao evs.length co) s7 k nm v z))
        case first =>
          cases b4 with
          | true =>
            have hs4 := H7.out
            rw [if_pos rfl] at hs4
            subst hs4
            obtain ⟨d0, d1, d2, d3, d4⟩ := HE13.out.rdr.cells
            go_wp2_with (first
              | (go_at_call 69; refine (HFL.out _ _ _ _ _ _ _ _ _ HE13.out).mono ?_; rintro x wy ⟨rfl, hE14⟩; have HE14 := Lib.hid hE14; clear hE14))
            go_meet
            exact HE14
          | false =>
            have hs4 := H7.out
            rw [if_neg (by simp)] at hs4
            subst hs4
            go_wp2_with fail
            go_meet
            exact HE13
        case rest =>
        clear HE13
        have HE15 := hcut
        clear hcut
        go_upto_region 22 with (fail)
        have HGB : Hid (w0.heap.size ≤ wc.drew.heap.size) := Lib.hid (Nat.le_trans HG.out (Nat.le_of_lt (blk_lt HE15.out.rdr)))
        have HFR : Hid (∀ q, wc.drew.heap.size ≤ q → q ≠ g) := Lib.hid (fun q hq e => by have h1 := blk_lt HE15.out.rdr; have h2 : wc.heap.size ≤ q := hq; omega)
        have HO15 : Hid (Kd.R k34 34 wc.drew w0.heap.size (fun q => q ≠ g) (.slice Ao evs.length co) evs) := Lib.hid (Kd.R_drew (Kd.R_keep HO.out HE15.out.keep (fun _ h => h)))
        have HB15 : Hid (Below w0.heap.size w0 wc.drew) := Lib.hid (below_drew (HB.out.trans (HE15.out.below.mono HG.out)))
        refine start_ (n := 11) (S := fun w' => w'.cell? ⟨g, 2, none⟩ = some (.slice Ao evs.length co) ∧ w'.cell? ⟨gb, 0, none⟩ = some (.int .i64 (k : Int)) ∧ w'.cell? ⟨gb, 1, none⟩ = some (.int .i64 nm) ∧ w'.cell? ⟨gb, 2, none⟩ = some (.int .i64 v) ∧ w'.cell? ⟨gb, 3, none⟩ = some (.int .i64 z)) (ds := [7, 10]) #[false, false, false, false, false, false, false, false, false, false, false] (by kernel_rfl) rfl rfl ⟨HE15.out.rdr.cells.2.2.1, HE15.out.cells.1, HE15.out.cells.2.1, HE15.out.cells.2.2.1, HE15.out.cells.2.2.2⟩ (fun hHeld => ?_)
        obtain ⟨wd, hwd⟩ : ∃ wd, wd = wc.drew := ⟨_, rfl⟩
        have HR15 : Hid (Rdr wd g (some adB) l.length c (.slice Ao evs.length co) s7) := Lib.hid (by rw [hwd]; exact HE15.out.rdr)
        rw [← hwd] at hHeld HGB HFR HO15 HB15 ⊢
        clear hwd HE15
        refine pure_ (i := 0) (N := some 155) (v := ?_) (a' := ?_) #[true, false, false, false, false, false, false, false, false, false, false] rfl rfl (by kernel_rfl) (fun _ _ _ h => h) (Or.inl ⟨by rfl, ?_⟩) ?_ ?_
        rotate_left
        · intro w'
          go_simp
          with_reducible rfl
        rotate_left
        · simp only [Act.put, List.setIfInBounds_toArray, List.set_cons_zero, List.set_cons_succ, i64_w, i32_w]
          rfl
        refine pure_ (i := 1) (N := some 156) (v := ?_) (a' := ?_) #[true, true, false, false, false, false, false, false, false, false, false] rfl rfl (by kernel_rfl) (fun _ _ _ h => h) (Or.inl ⟨by rfl, ?_⟩) ?_ ?_
        rotate_left
        · intro w'
          go_simp
          with_reducible rfl
        rotate_left
        · simp only [Act.put, List.setIfInBounds_toArray, List.set_cons_zero, List.set_cons_succ, i64_w, i32_w]
          rfl
        refine pure_ (i := 2) (N := some 157) (v := ?_) (a' := ?_) #[true, true, true, false, false, false, false, false, false, false, false] rfl rfl (by kernel_rfl) (fun _ _ _ h => h) (Or.inl ⟨by rfl, ?_⟩) ?_ ?_
        rotate_left
        · intro w'
          go_simp
          with_reducible rfl
        rotate_left
        · simp only [Act.put, List.setIfInBounds_toArray, List.set_cons_zero, List.set_cons_succ, i64_w, i32_w]
          rfl
        refine pure_ (i := 3) (N := some 158) (v := ?_) (a' := ?_) #[true, true, true, true, false, false, false, false, false, false, false] rfl rfl (by kernel_rfl) (fun _ _ _ h => h) (Or.inl ⟨by rfl, ?_⟩) ?_ ?_
        rotate_left
        · intro w'
          go_simp
          with_reducible rfl
        rotate_left
        · simp only [Act.put, List.setIfInBounds_toArray, List.set_cons_zero, List.set_cons_succ, i64_w, i32_w]
          rfl
        refine take_ (i := 4) (N := some 159) (v := ?_) (a' := ?_) #[true, true, true, true, true, false, false, false, false, false, false] rfl rfl (by kernel_rfl) (fun _ _ _ h => h) (Or.inl ⟨by rfl, ?_⟩) hHeld ?_ ?_
        rotate_left
        · rintro w' ⟨s0, s1, s2, s3, s4⟩
          go_simp
          with_reducible rfl
        rotate_left
        · simp only [Act.put, List.setIfInBounds_toArray, List.set_cons_zero, List.set_cons_succ, i64_w, i32_w]
          rfl
        refine take_ (i := 5) (N := some 160) (v := ?_) (a' := ?_) #[true, true, true, true, true, true, false, false, false, false, false] rfl rfl (by kernel_rfl) (fun _ _ _ h => h) (Or.inl ⟨by rfl, ?_⟩) hHeld ?_ ?_
        rotate_left
        · rintro w' ⟨s0, s1, s2, s3, s4⟩
          go_simp
          with_reducible rfl
        rotate_left
        · simp only [Act.put, List.setIfInBounds_toArray, List.set_cons_zero, List.set_cons_succ, i64_w, i32_w]
          rfl
        refine one_ (i := 6) (N := some 161) #[true, true, true, true, true, true, true, false, false, false, false] rfl rfl (by kernel_rfl) (by decide) (fun K hK => ?_)
        refine value_ (w1 := ?_) (v := ?_) (by rfl) rfl ?_ ?_
        rotate_left 2
        · go_simp
          constructor
          · rfl
          · rfl
        refine hK.out _ _ ⟨(pw_cell_below (below_alloc (Below.refl _ _) _) hHeld.1), (pw_cell_below (below_alloc (Below.refl _ _) _) hHeld.2.1), (pw_cell_below (below_alloc (Below.refl _ _) _) hHeld.2.2.1), (pw_cell_below (below_alloc (Below.refl _ _) _) hHeld.2.2.2.1), (pw_cell_below (below_alloc (Below.refl _ _) _) hHeld.2.2.2.2)⟩ (fun hHeld => ?_)
        clear hK K
        refine norm_ (a' := ?_) ?_ ?_
        rotate_left
        · show Act.put _ (some 161) _ = _
          simp only [Act.put, List.setIfInBounds_toArray, List.set_cons_zero, List.set_cons_succ, i64_w, i32_w]
          rfl
        refine last_ (i := 7) (N := some 162) #[true, true, true, true, true, true, true, true, false, false, false] rfl rfl (by kernel_rfl) (by decide) (fun K hK => ?_)
        refine Kd.R_append_step k34 (w0 := w0) (W := wd) w0.heap.size (by rfl) (.tmp 159) (.tmp 161) 22 34 (.agg #[(.int .i64 0), (.int .i64 0), (.int .i64 0), (.int .i64 0)]) 32 rfl Tryd.underlying22 infoEv rfl (by decide) (by decide) (.slice Ao evs.length co) evs ⟨k, nm, v, z⟩ [.int .i64 (k : Int), .int .i64 nm, .int .i64 v, .int .i64 z] (fun q => q ≠ g) (fun _ => False) rfl rfl (k34_mkM _ _ _ ⟨k, nm, v, z⟩) (fun _ h => h.elim) HFR.out HO15.out HB15.out HGB.out HL15.out ?_
        intro v1 w1 hRow hBl hGr hAt
        obtain ⟨A1, cc1, rfl⟩ := Kd.R_slice hRow
        obtain ⟨d0, d1, d2, d3, d4⟩ := (Rdr.grownE HR15.out HO15.out hGr).cells
        have f2 := (Rdr.grownE HR15.out HO15.out hGr).frozen 2
        have HR1 := Lib.hid (Rdr.grownE HR15.out HO15.out hGr)
        have HROW := Lib.hid hRow
        have HBL := Lib.hid hBl
        clear hRow hBl hGr hAt
        refine hK.out _ _ ?_
        clear hK K
        refine norm_ (a' := ?_) ?_ ?_
        rotate_left
        · show Act.put _ (some 162) _ = _
          simp only [Act.put, List.setIfInBounds_toArray, List.set_cons_zero, List.set_cons_succ, i64_w, i32_w]
          rfl
        refine pure_ (i := 8) (N := some 163) (v := ?_) (a' := ?_) #[true, true, true, true, true, true, true, true, true, false, false] rfl rfl (by kernel_rfl) (fun _ _ _ h => h) (Or.inl ⟨by rfl, ?_⟩) ?_ ?_
        rotate_left
        · intro w'
          go_simp
          with_reducible rfl
        rotate_left
        · simp only [Act.put, List.setIfInBounds_toArray, List.set_cons_zero, List.set_cons_succ, i64_w, i32_w]
          rfl
        refine pure_ (i := 9) (N := some 164) (v := ?_) (a' := ?_) #[true, true, true, true, true, true, true, true, true, true, false] rfl rfl (by kernel_rfl) (fun _ _ _ h => h) (Or.inl ⟨by rfl, ?_⟩) ?_ ?_
        rotate_left
        · intro w'
          go_simp
          with_reducible rfl
        rotate_left
        · simp only [Act.put, List.setIfInBounds_toArray, List.set_cons_zero, List.set_cons_succ, i64_w, i32_w]
          rfl
        refine last_ (i := 10) (N := none) #[true, true, true, true, true, true, true, true, true, true, true] rfl rfl (by kernel_rfl) (by decide) (fun K hK => ?_)
        refine skip_ (w1 := ?_) (by rfl) rfl ?_ ?_
        rotate_left
        · go_simp
          rfl
        refine hK.out _ _ ?_
        clear hK K
        refine done_ (by kernel_rfl) ?_
        first | go_end0 | ((try simp only [Exit.inBlock, Exit.then]); refine bodyPost_ret (results_none rfl _ _ _) rfl ?_)
        have hle : (evs ++ [(⟨k, nm, v, z⟩ : S34)]).length = evs.length + 1 := by simp
        have hfar := Kd.R_far (p := ⟨g, 2, none⟩) HROW.out (fun _ h => h) (.slice A1 (evs.length + 1) cc1)
        rw [hle] at hfar
        refine ⟨rfl, ⟨A1, cc1, ?_, ?_⟩, HBL.out.setCell (p := ⟨g, 2, none⟩) HG.out _, HG.out⟩
        · show Rdr _ g (some adB) l.length c (.slice A1 (evs ++ [(⟨k, nm, v, z⟩ : S34)]).length cc1) s7
          rw [hle]; exact HR1.out.set_out _
        · show Kd.R k34 34 _ _ _ (.slice A1 (evs ++ [(⟨k, nm, v, z⟩ : S34)]).length cc1) _
          rw [hle]; exact hfar
  · rw [if_pos hb1] at hres
    subst hres
    have hbb : (s1.bad != 0) = true := by simpa using hb1
    clear hok
    go_enter Tryd.func70, Tryd.ntmps70
    go_wp2_with (first
      | (go_at_call 68; refine HN.out.mono ?_; rintro x w2 ⟨rfl, hR2, hK2, hB2⟩; have H2 : Hid (RdAt w0 w2 g A l c s1 evs) := Lib.hid (RdAt.step HO.out HB.out HG.out hR2 hK2 hB2); obtain ⟨d0, d1, d2, d3, d4⟩ := hR2.cells; clear hR2 hK2 hB2 c0 c1 c2 c3 c4))
    first | go_end0 | ((try simp only [Exit.inBlock, Exit.then]); refine bodyPost_ret (results_none rfl _ _ _) rfl ?_)
    exact ⟨rfl, H2.out⟩
end Go.Proofs.YthkpocgbinmeiaaDoor.P

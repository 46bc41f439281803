/- The document's event (recantref02.event), given. -/
import Derived.Test.YthkpocgbinmeiaaDoorGNames
import Derived.Test.YthkpocgbinmeiaaDoorP5
import Derived.Test.YthkpocgbinmeiaaDoorP6
import Derived.Test.YthkpocgbinmeiaaDoorUTextNum
import Derived.Deep.DeepCutAuto
import Derived.Deep.RegionWith
namespace Go.Proofs.YthkpocgbinmeiaaDoor.P
set_option linter.unusedVariables false
set_option linter.unusedSimpArgs false
open Go Go.RowKit Go.Proofs.YthkpocgbinmeiaaDoorW.PrintWords Go.Proofs.YthkpocgbinmeiaaDoorW.PrintLast Go.Proofs.YthkpocgbinmeiaaDoorW.PrintMore Go.Proofs.YthkpocgbinmeiaaDoor.U

/-- A line, what is handed back. -/
structure RSt (W w : World) (g3 g6 : Nat) (Aw : Option Addr) (nw cw : Nat) (Aa : Option Addr) (na ca : Nat) : Prop where
  line : w.heap[g3]? = some (.cells #[.slice Aw nw cw, .slice Aa na ca] 85 (0, 0))
  res : w.heap[g6]? = some (.cells #[.int .i64 0, .int .i64 0, .int .i64 0, .int .i64 0, .int .i64 0, .int .i64 0, .int .i64 0, .int .i64 0] 88 (0, 0))
  below : Below W.heap.size W w
  old3 : W.heap.size ≤ g3
  old6 : W.heap.size ≤ g6
  ne : g3 ≠ g6
/-- .. and the event so far. -/
structure RX (W w : World) (g3 g6 g8 : Nat) (Aw : Option Addr) (nw cw : Nat) (Aa : Option Addr) (na ca : Nat) (q : Q8) : Prop where
  t : RSt W w g3 g6 Aw nw cw Aa na ca
  ev : w.heap[g8]? = some (.cells q.cs 88 (0, 0))
  old : W.heap.size ≤ g8
  n3 : g8 ≠ g3
  n6 : g8 ≠ g6
theorem RSt.call {W w w' : World} {g3 g6 : Nat} {Aw : Option Addr} {nw cw : Nat} {Aa : Option Addr} {na ca : Nat} (h : RSt W w g3 g6 Aw nw cw Aa na ca) (hb : Below w.heap.size w w') : RSt W w' g3 g6 Aw nw cw Aa na ca :=
  ⟨(hb.block g3 (blk_lt h.line)).trans h.line, (hb.block g6 (blk_lt h.res)).trans h.res, h.below.trans (hb.mono h.below.size), h.old3, h.old6, h.ne⟩
theorem RSt.cells {W w : World} {g3 g6 : Nat} {Aw : Option Addr} {nw cw : Nat} {Aa : Option Addr} {na ca : Nat} (h : RSt W w g3 g6 Aw nw cw Aa na ca) : w.cell? ⟨g3, 0, none⟩ = some (.slice Aw nw cw) ∧ w.cell? ⟨g3, 1, none⟩ = some (.slice Aa na ca) :=
  ⟨(blk_cell h.line 0).trans rfl, (blk_cell h.line 1).trans rfl⟩
theorem RSt.zero {W w : World} {g3 g6 : Nat} {Aw : Option Addr} {nw cw : Nat} {Aa : Option Addr} {na ca : Nat} (h : RSt W w g3 g6 Aw nw cw Aa na ca) : (w.cell? ⟨g6, 0, none⟩ = some (.int .i64 0) ∧ w.cell? ⟨g6, 1, none⟩ = some (.int .i64 0) ∧ w.cell? ⟨g6, 2, none⟩ = some (.int .i64 0) ∧ w.cell? ⟨g6, 3, none⟩ = some (.int .i64 0) ∧ w.cell? ⟨g6, 4, none⟩ = some (.int .i64 0) ∧ w.cell? ⟨g6, 5, none⟩ = some (.int .i64 0) ∧ w.cell? ⟨g6, 6, none⟩ = some (.int .i64 0) ∧ w.cell? ⟨g6, 7, none⟩ = some (.int .i64 0)) ∧ w.frozen? ⟨g6, 0, none⟩ = false ∧ w.frozen? ⟨g6, 1, none⟩ = false ∧ w.frozen? ⟨g6, 2, none⟩ = false ∧ w.frozen? ⟨g6, 3, none⟩ = false ∧ w.frozen? ⟨g6, 4, none⟩ = false ∧ w.frozen? ⟨g6, 5, none⟩ = false ∧ w.frozen? ⟨g6, 6, none⟩ = false ∧ w.frozen? ⟨g6, 7, none⟩ = false :=
  ⟨⟨(blk_cell h.res 0).trans rfl, (blk_cell h.res 1).trans rfl, (blk_cell h.res 2).trans rfl, (blk_cell h.res 3).trans rfl, (blk_cell h.res 4).trans rfl, (blk_cell h.res 5).trans rfl, (blk_cell h.res 6).trans rfl, (blk_cell h.res 7).trans rfl⟩, blk_frozen h.res 0, blk_frozen h.res 1, blk_frozen h.res 2, blk_frozen h.res 3, blk_frozen h.res 4, blk_frozen h.res 5, blk_frozen h.res 6, blk_frozen h.res 7⟩
theorem RSt.done {W w : World} {g3 g6 : Nat} {Aw : Option Addr} {nw cw : Nat} {Aa : Option Addr} {na ca : Nat} (h : RSt W w g3 g6 Aw nw cw Aa na ca) (q : Q8) : ((((((((((w).setCell ⟨g6, 0, none⟩ (.int .i64 q.x0)).setCell ⟨g6, 1, none⟩ (.int .i64 q.x1)).setCell ⟨g6, 2, none⟩ (.int .i64 q.x2)).setCell ⟨g6, 3, none⟩ (.int .i64 q.x3)).setCell ⟨g6, 4, none⟩ (.int .i64 q.i)).setCell ⟨g6, 5, none⟩ (.int .i64 q.n)).setCell ⟨g6, 6, none⟩ (.int .i64 q.a)).setCell ⟨g6, 7, none⟩ (.int .i64 q.e)).heap[g6]? = some (.cells q.cs 88 (0, 0))) ∧ Below W.heap.size W (((((((((w).setCell ⟨g6, 0, none⟩ (.int .i64 q.x0)).setCell ⟨g6, 1, none⟩ (.int .i64 q.x1)).setCell ⟨g6, 2, none⟩ (.int .i64 q.x2)).setCell ⟨g6, 3, none⟩ (.int .i64 q.x3)).setCell ⟨g6, 4, none⟩ (.int .i64 q.i)).setCell ⟨g6, 5, none⟩ (.int .i64 q.n)).setCell ⟨g6, 6, none⟩ (.int .i64 q.a)).setCell ⟨g6, 7, none⟩ (.int .i64 q.e)) := by
  have ho := h.old6
  refine ⟨?_, ?_⟩
  · have := blk_set (blk_set (blk_set (blk_set (blk_set (blk_set (blk_set (blk_set  h.res 0 (.int .i64 q.x0)) 1 (.int .i64 q.x1)) 2 (.int .i64 q.x2)) 3 (.int .i64 q.x3)) 4 (.int .i64 q.i)) 5 (.int .i64 q.n)) 6 (.int .i64 q.a)) 7 (.int .i64 q.e)
    simpa [Q8.cs] using this
  · exact ((((((((h.below.setCell (p := ⟨g6, 0, none⟩) ho _).setCell (p := ⟨g6, 1, none⟩) ho _).setCell (p := ⟨g6, 2, none⟩) ho _).setCell (p := ⟨g6, 3, none⟩) ho _).setCell (p := ⟨g6, 4, none⟩) ho _).setCell (p := ⟨g6, 5, none⟩) ho _).setCell (p := ⟨g6, 6, none⟩) ho _).setCell (p := ⟨g6, 7, none⟩) ho _)
theorem RX.call {W w w' : World} {g3 g6 g8 : Nat} {Aw : Option Addr} {nw cw : Nat} {Aa : Option Addr} {na ca : Nat} {q : Q8} (h : RX W w g3 g6 g8 Aw nw cw Aa na ca q) (hb : Below w.heap.size w w') : RX W w' g3 g6 g8 Aw nw cw Aa na ca q :=
  ⟨h.t.call hb, (hb.block g8 (blk_lt h.ev)).trans h.ev, h.old, h.n3, h.n6⟩
theorem RX.drewN {W w : World} {g3 g6 g8 : Nat} {Aw : Option Addr} {nw cw : Nat} {Aa : Option Addr} {na ca : Nat} {q : Q8} (h : RX W w g3 g6 g8 Aw nw cw Aa na ca q) (m : Nat) : RX W (w.drewN m) g3 g6 g8 Aw nw cw Aa na ca q := h.call (pw_below_drewN (Below.refl _ w) m)
theorem RX.cells {W w : World} {g3 g6 g8 : Nat} {Aw : Option Addr} {nw cw : Nat} {Aa : Option Addr} {na ca : Nat} {q : Q8} (h : RX W w g3 g6 g8 Aw nw cw Aa na ca q) : (w.cell? ⟨g8, 0, none⟩ = some (.int .i64 q.x0) ∧ w.cell? ⟨g8, 1, none⟩ = some (.int .i64 q.x1) ∧ w.cell? ⟨g8, 2, none⟩ = some (.int .i64 q.x2) ∧ w.cell? ⟨g8, 3, none⟩ = some (.int .i64 q.x3) ∧ w.cell? ⟨g8, 4, none⟩ = some (.int .i64 q.i) ∧ w.cell? ⟨g8, 5, none⟩ = some (.int .i64 q.n) ∧ w.cell? ⟨g8, 6, none⟩ = some (.int .i64 q.a) ∧ w.cell? ⟨g8, 7, none⟩ = some (.int .i64 q.e)) ∧ w.frozen? ⟨g8, 0, none⟩ = false ∧ w.frozen? ⟨g8, 1, none⟩ = false ∧ w.frozen? ⟨g8, 2, none⟩ = false ∧ w.frozen? ⟨g8, 3, none⟩ = false ∧ w.frozen? ⟨g8, 4, none⟩ = false ∧ w.frozen? ⟨g8, 5, none⟩ = false ∧ w.frozen? ⟨g8, 6, none⟩ = false ∧ w.frozen? ⟨g8, 7, none⟩ = false :=
  ⟨⟨(blk_cell h.ev 0).trans rfl, (blk_cell h.ev 1).trans rfl, (blk_cell h.ev 2).trans rfl, (blk_cell h.ev 3).trans rfl, (blk_cell h.ev 4).trans rfl, (blk_cell h.ev 5).trans rfl, (blk_cell h.ev 6).trans rfl, (blk_cell h.ev 7).trans rfl⟩, blk_frozen h.ev 0, blk_frozen h.ev 1, blk_frozen h.ev 2, blk_frozen h.ev 3, blk_frozen h.ev 4, blk_frozen h.ev 5, blk_frozen h.ev 6, blk_frozen h.ev 7⟩
theorem RX.put {W w : World} {g3 g6 g8 : Nat} {Aw : Option Addr} {nw cw : Nat} {Aa : Option Addr} {na ca : Nat} {q q' : Q8} (h : RX W w g3 g6 g8 Aw nw cw Aa na ca q) (i : Nat) (u : Value) (e : q.cs.setIfInBounds i u = q'.cs) : RX W (w.setCell ⟨g8, i, none⟩ u) g3 g6 g8 Aw nw cw Aa na ca q' :=
  ⟨⟨(Below.heap_setCell w ⟨g8, i, none⟩ u g3 (Ne.symm h.n3)).trans h.t.line, (Below.heap_setCell w ⟨g8, i, none⟩ u g6 (Ne.symm h.n6)).trans h.t.res, h.t.below.setCell (p := ⟨g8, i, none⟩) h.old _, h.t.old3, h.t.old6, h.t.ne⟩, by rw [← e]; exact blk_set h.ev i u, h.old, h.n3, h.n6⟩
theorem RX.all {W w : World} {g3 g6 g8 : Nat} {Aw : Option Addr} {nw cw : Nat} {Aa : Option Addr} {na ca : Nat} {q : Q8} (h : RX W w g3 g6 g8 Aw nw cw Aa na ca q) (r : Q8) : RX W (((((((((w).setCell ⟨g8, 0, none⟩ (.int .i64 r.x0)).setCell ⟨g8, 1, none⟩ (.int .i64 r.x1)).setCell ⟨g8, 2, none⟩ (.int .i64 r.x2)).setCell ⟨g8, 3, none⟩ (.int .i64 r.x3)).setCell ⟨g8, 4, none⟩ (.int .i64 r.i)).setCell ⟨g8, 5, none⟩ (.int .i64 r.n)).setCell ⟨g8, 6, none⟩ (.int .i64 r.a)).setCell ⟨g8, 7, none⟩ (.int .i64 r.e)) g3 g6 g8 Aw nw cw Aa na ca r :=
  (((((((h.put (q' := ⟨r.x0, q.x1, q.x2, q.x3, q.i, q.n, q.a, q.e⟩) 0 (.int .i64 r.x0) rfl).put (q' := ⟨r.x0, r.x1, q.x2, q.x3, q.i, q.n, q.a, q.e⟩) 1 (.int .i64 r.x1) rfl).put (q' := ⟨r.x0, r.x1, r.x2, q.x3, q.i, q.n, q.a, q.e⟩) 2 (.int .i64 r.x2) rfl).put (q' := ⟨r.x0, r.x1, r.x2, r.x3, q.i, q.n, q.a, q.e⟩) 3 (.int .i64 r.x3) rfl).put (q' := ⟨r.x0, r.x1, r.x2, r.x3, r.i, q.n, q.a, q.e⟩) 4 (.int .i64 r.i) rfl).put (q' := ⟨r.x0, r.x1, r.x2, r.x3, r.i, r.n, q.a, q.e⟩) 5 (.int .i64 r.n) rfl).put (q' := ⟨r.x0, r.x1, r.x2, r.x3, r.i, r.n, r.a, q.e⟩) 6 (.int .i64 r.a) rfl).put (q' := ⟨r.x0, r.x1, r.x2, r.x3, r.i, r.n, r.a, r.e⟩) 7 (.int .i64 r.e) rfl
theorem RX.set1 {W w : World} {g3 g6 g8 : Nat} {Aw : Option Addr} {nw cw : Nat} {Aa : Option Addr} {na ca : Nat} {q : Q8} (h : RX W w g3 g6 g8 Aw nw cw Aa na ca q) (x : Int) : RX W (w.setCell ⟨g8, 1, none⟩ (.int .i64 x)) g3 g6 g8 Aw nw cw Aa na ca { q with x1 := x } := h.put 1 _ rfl
theorem RX.set2 {W w : World} {g3 g6 g8 : Nat} {Aw : Option Addr} {nw cw : Nat} {Aa : Option Addr} {na ca : Nat} {q : Q8} (h : RX W w g3 g6 g8 Aw nw cw Aa na ca q) (x : Int) : RX W (w.setCell ⟨g8, 2, none⟩ (.int .i64 x)) g3 g6 g8 Aw nw cw Aa na ca { q with x2 := x } := h.put 2 _ rfl
theorem RX.set3 {W w : World} {g3 g6 g8 : Nat} {Aw : Option Addr} {nw cw : Nat} {Aa : Option Addr} {na ca : Nat} {q : Q8} (h : RX W w g3 g6 g8 Aw nw cw Aa na ca q) (x : Int) : RX W (w.setCell ⟨g8, 3, none⟩ (.int .i64 x)) g3 g6 g8 Aw nw cw Aa na ca { q with x3 := x } := h.put 3 _ rfl
def recantref02_event.f (l0_0 : List ByteArray) (l0_1 : List Int) (l1 : List S34) (a2 : Int) : Option (Int × Int × Int × Int × Int × Int × Int × Int) :=
  if 0 < l0_0.length ∧ l0_0.length = l0_1.length ∧ l0_0.length ≤ 1000000 ∧ l1.length ≤ 1000 ∧ (∀ s ∈ l0_0, s.size ≤ 1000000) then some ((revQ l0_0 l0_1 a2 l1).x0, (revQ l0_0 l0_1 a2 l1).x1, (revQ l0_0 l0_1 a2 l1).x2, (revQ l0_0 l0_1 a2 l1).x3, (revQ l0_0 l0_1 a2 l1).i, (revQ l0_0 l0_1 a2 l1).n, (revQ l0_0 l0_1 a2 l1).a, (revQ l0_0 l0_1 a2 l1).e) else none
set_option maxHeartbeats 2000000 in
set_option maxRecDepth 100000 in
theorem revent_any (Aw : Option Addr) (cw : Nat) (ws : List ByteArray) (Aa : Option Addr) (ca : Nat) (ats : List Int) (Ae : Option Addr) (ce : Nat) (evs : List S34) (en : Int) (W : World)
    (hw : Kd.C Kd.string W Aw ws.length ws) (hcw : ws.length ≤ cw) (ha : Kd.C (Kd.int .i64) W Aa ats.length ats) (hca : ats.length ≤ ca) (he : Kd.C k34 W Ae evs.length evs) (hce : evs.length ≤ ce)
    (h0 : 0 < ws.length) (hl : ws.length = ats.length) (hwl : ws.length ≤ 1000000) (hev : evs.length ≤ 1000) (hs : ∀ s ∈ ws, s.size ≤ 1000000) (r : Q8) (hr : revQ ws ats en evs = r) :
    Calls Tryd.prog 63 #[.agg #[.slice Aw ws.length cw, .slice Aa ats.length ca], .slice Ae evs.length ce, .int .i64 en] W fun x w' => x = .returned (.agg #[.int .i64 r.x0, .int .i64 r.x1, .int .i64 r.x2, .int .i64 r.x3, .int .i64 r.i, .int .i64 r.n, .int .i64 r.a, .int .i64 r.e]) ∧ Below W.heap.size W w' := by
  have HW := Lib.hid hw
  have HA := Lib.hid ha
  have HE := Lib.hid he
  have HR := Lib.hid hr.symm
  have HL := Lib.hid hl
  have hKD : Hid (∀ w, Calls Tryd.prog 91 #[.string (rdOf ByteArray.empty ws 0)] w fun e w' => e = .returned (.int .i64 (kindW (rdOf ByteArray.empty ws 0))) ∧ Below w.heap.size w w') := Lib.hid (by
    intro w
    obtain ⟨K, e⟩ := rkind (rdOf ByteArray.empty ws 0)
    exact recantref02_kind.calls K _ _ w (e K (Nat.le_refl _)))
  have hNM : Hid (∀ w, Below W.heap.size W w → Calls Tryd.prog 46 #[.slice Ae evs.length ce] w fun e w' => ∃ v0_ : Value, e = .returned v0_ ∧ Kd.R (Kd.int .i64) 3 w' w.heap.size (fun _ => True) v0_ (namesF evs) ∧ Below w.heap.size w w') := Lib.hid (by
    intro w hb
    obtain ⟨K, e⟩ := pnames_f evs hev
    exact recantref02_Names.calls K Ae ce evs _ w (Kd.C_below HE.out hb) hce (e K (Nat.le_refl _)))
  have hVB : Hid (∀ k w, Calls Tryd.prog 48 #[.int .i64 k] w fun e w' => e = .returned (.bool (varB k)) ∧ Drawn0 w w') := Lib.hid (fun k w => recantref02_Variable.calls k _ w (pvar k))
  have hZB : Hid (∀ k w, Calls Tryd.prog 49 #[.int .i64 k] w fun e w' => e = .returned (.bool (valB k)) ∧ Drawn0 w w') := Lib.hid (fun k w => recantref02_Value.calls k _ w (pval k))
  have hNB : Hid (∀ (q : Q8) (lo hi : Int) w, 0 ≤ q.i → Below W.heap.size W w → Calls Tryd.prog 92 #[.agg #[.slice Aw ws.length cw, .slice Aa ats.length ca], .agg #[.int .i64 q.x0, .int .i64 q.x1, .int .i64 q.x2, .int .i64 q.x3, .int .i64 q.i, .int .i64 q.n, .int .i64 q.a, .int .i64 q.e], .int .i64 lo, .int .i64 hi, .int .i64 en] w fun e w' => e = .returned (.agg #[.int .i64 (numQ ws ats en q lo hi).x0, .int .i64 (numQ ws ats en q lo hi).x1, .int .i64 (numQ ws ats en q lo hi).x2, .int .i64 (numQ ws ats en q lo hi).x3, .int .i64 (numQ ws ats en q lo hi).i, .int .i64 (numQ ws ats en q lo hi).n, .int .i64 (numQ ws ats en q lo hi).a, .int .i64 (numQ ws ats en q lo hi).e]) ∧ Below w.heap.size w w') := Lib.hid (by
    intro q lo hi w hq hb
    obtain ⟨K, e⟩ := rnumQ ws ats en q lo hi hl hs hwl hq
    exact recantref02_number.calls K Aw cw ws Aa ca ats q.x0 q.x1 q.x2 q.x3 q.i q.n q.a q.e lo hi en (numQ ws ats en q lo hi).x0 (numQ ws ats en q lo hi).x1 (numQ ws ats en q lo hi).x2 (numQ ws ats en q lo hi).x3 (numQ ws ats en q lo hi).i (numQ ws ats en q lo hi).n (numQ ws ats en q lo hi).a (numQ ws ats en q lo hi).e w (Kd.C_below HW.out hb) hcw (Kd.C_below HA.out hb) hca (e K (Nat.le_refl _)))
  obtain ⟨sw, hsw⟩ : ∃ sw, sw = Kd.at_string HW.out (0 : Int) (by decide) (by omega) := ⟨_, rfl⟩
  clear hsw
  obtain ⟨kd, hkd⟩ : ∃ kd, kd = kindW (rdOf ByteArray.empty ws 0) := ⟨_, rfl⟩
  rw [← hkd] at hKD
  have HKK := Lib.hid hkd
  clear hw ha he hr hl hs hkd
  obtain ⟨aw, rfl, xw⟩ := sw
  rw [show (0 : Int).toNat = 0 from rfl] at xw
  have xw0 : W.cell? aw = some (.string (rdOf ByteArray.empty ws 0)) := by simpa [go_sem] using xw
  obtain ⟨aa, haa, xa⟩ := Kd.at_int HA.out (0 : Int) (by decide) (by rw [← HL.out]; omega)
  subst haa
  rw [show (0 : Int).toNat = 0 from rfl] at xa
  have xa0 : W.cell? aa = some (.int .i64 (rd ats 0)) := by simpa [go_sem] using xa
  clear xw xa
  have XW := Lib.hid xw0
  have XA := Lib.hid xa0
  have hab := World.block_lt_of_cell? _ _ xa0
  have haw := World.block_lt_of_cell? _ _ xw0
  clear xw0 xa0
  obtain ⟨wb, wo, wl⟩ := aw
  obtain ⟨ab, ao, al⟩ := aa
  dsimp only at hab haw
  have ha1 : 0 < ats.length := by have := HL.out; omega
  have ha0 : (0 : Int) < ats.length := by omega
  have hw0 : (0 : Int) < ws.length := by omega
  go_enter Tryd.func63, Tryd.ntmps63
  go_upto_region 1 with (first
    | ((with_reducible refine gate_dst (N := 3) rfl ?_); refine box_event ?hg (N := 3) ?hd (cs := #[.slice (some ⟨wb, wo, wl⟩) ws.length cw, .slice (some ⟨ab, ao, al⟩) ats.length ca]) (t := 85) ?hr ?_; (case hd => rfl); (case hg => rfl); (case hr => first | (go_simp; done) | (go_simp; rfl)); intro g3 hg3 w2 hbox hb; have HX3 := Lib.hid hbox; have HB3 := Lib.hid hb; have HG3 := Lib.hid hg3; clear hbox hb hg3)
    | ((with_reducible refine gate_dst (N := 6) rfl ?_); refine box_event ?hg (N := 6) ?hd (cs := #[.int .i64 0, .int .i64 0, .int .i64 0, .int .i64 0, .int .i64 0, .int .i64 0, .int .i64 0, .int .i64 0]) (t := 88) ?hr ?_; (case hd => rfl); (case hg => rfl); (case hr => first | (go_simp; done) | (go_simp; rfl)); intro g6 hg6 w3 hbox hb; have HTS : Hid (RSt W w3 g3 g6 (some ⟨wb, wo, wl⟩) ws.length cw (some ⟨ab, ao, al⟩) ats.length ca) := Lib.hid ⟨(hb.block g3 (blk_lt HX3.out)).trans HX3.out, hbox, HB3.out.trans (hb.mono HB3.out.size), by rw [HG3.out]; exact Nat.le_refl _, by rw [hg6]; exact HB3.out.size, by have := blk_lt HX3.out; omega⟩; clear hbox hb hg6 HX3 HB3 HG3))
  have hn1 : ab ≠ g6 := by have := HTS.out.old6; omega
  have hn2 : g3 ≠ g6 := HTS.out.ne
  have hn3 : g6 ≠ ab := Ne.symm hn1
  have hn4 : g6 ≠ g3 := Ne.symm hn2
  have x0 := HTS.out.cells.1
  have x1 := HTS.out.cells.2
  have xw := pw_cell_below HTS.out.below XW.out
  have xa := pw_cell_below HTS.out.below XA.out
  by_cases h60 : evs.length = 60
  · have e1 : ((evs.length : Int) == 60) = true := by simp; omega
    have hv : r = ⟨0, 0, 0, 0, 0, 0, rd ats 0, 5⟩ := by
      have := HR.out
      unfold revQ at this
      rw [if_pos h60] at this
      exact this
    obtain ⟨⟨y0, y1, y2, y3, y4, y5, y6, y7⟩, f0, f1, f2, f3, f4, f5, f6, f7⟩ := HTS.out.zero
    go_wp2
    have hd : ((((((((((w3).setCell ⟨g6, 0, none⟩ (.int .i64 0)).setCell ⟨g6, 1, none⟩ (.int .i64 0)).setCell ⟨g6, 2, none⟩ (.int .i64 0)).setCell ⟨g6, 3, none⟩ (.int .i64 0)).setCell ⟨g6, 4, none⟩ (.int .i64 0)).setCell ⟨g6, 5, none⟩ (.int .i64 0)).setCell ⟨g6, 6, none⟩ (.int .i64 (rd ats 0))).setCell ⟨g6, 7, none⟩ (.int .i64 5)).heap[g6]? = some (.cells #[.int .i64 0, .int .i64 0, .int .i64 0, .int .i64 0, .int .i64 0, .int .i64 0, .int .i64 (rd ats 0), .int .i64 5] 88 (0, 0))) ∧ Below W.heap.size W (((((((((w3).setCell ⟨g6, 0, none⟩ (.int .i64 0)).setCell ⟨g6, 1, none⟩ (.int .i64 0)).setCell ⟨g6, 2, none⟩ (.int .i64 0)).setCell ⟨g6, 3, none⟩ (.int .i64 0)).setCell ⟨g6, 4, none⟩ (.int .i64 0)).setCell ⟨g6, 5, none⟩ (.int .i64 0)).setCell ⟨g6, 6, none⟩ (.int .i64 (rd ats 0))).setCell ⟨g6, 7, none⟩ (.int .i64 5)) := HTS.out.done ⟨0, 0, 0, 0, 0, 0, (rd ats 0), 5⟩
    obtain ⟨Wf, hWf⟩ : ∃ Wf, Wf = ((((((((w3).setCell ⟨g6, 0, none⟩ (.int .i64 0)).setCell ⟨g6, 1, none⟩ (.int .i64 0)).setCell ⟨g6, 2, none⟩ (.int .i64 0)).setCell ⟨g6, 3, none⟩ (.int .i64 0)).setCell ⟨g6, 4, none⟩ (.int .i64 0)).setCell ⟨g6, 5, none⟩ (.int .i64 0)).setCell ⟨g6, 6, none⟩ (.int .i64 (rd ats 0))).setCell ⟨g6, 7, none⟩ (.int .i64 5) := ⟨_, rfl⟩
    rw [← hWf] at hd ⊢
    obtain ⟨hq, hB⟩ := hd
    have z0 : Wf.cell? ⟨g6, 0, none⟩ = some (.int .i64 0) := (blk_cell hq 0).trans rfl
    have z1 : Wf.cell? ⟨g6, 1, none⟩ = some (.int .i64 0) := (blk_cell hq 1).trans rfl
    have z2 : Wf.cell? ⟨g6, 2, none⟩ = some (.int .i64 0) := (blk_cell hq 2).trans rfl
    have z3 : Wf.cell? ⟨g6, 3, none⟩ = some (.int .i64 0) := (blk_cell hq 3).trans rfl
    have z4 : Wf.cell? ⟨g6, 4, none⟩ = some (.int .i64 0) := (blk_cell hq 4).trans rfl
    have z5 : Wf.cell? ⟨g6, 5, none⟩ = some (.int .i64 0) := (blk_cell hq 5).trans rfl
    have z6 : Wf.cell? ⟨g6, 6, none⟩ = some (.int .i64 (rd ats 0)) := (blk_cell hq 6).trans rfl
    have z7 : Wf.cell? ⟨g6, 7, none⟩ = some (.int .i64 5) := (blk_cell hq 7).trans rfl
    clear hWf hq
    refine bodyPost_ret (v := .agg #[.int .i64 0, .int .i64 0, .int .i64 0, .int .i64 0, .int .i64 0, .int .i64 0, .int .i64 (rd ats 0), .int .i64 5]) (by simp [results, Tryd.results63, go_sem, z0, z1, z2, z3, z4, z5, z6, z7]) rfl ⟨by rw [hv], hB⟩
  have e1 : ((evs.length : Int) == 60) = false := by simp; omega
  go_upto_region 4 with (first
    | (go_at_call 91; refine (hKD.out _).mono ?_; rintro x w4 ⟨rfl, hb4⟩; have HT4 := Lib.hid (HTS.out.call hb4); clear hb4))
  clear x0 x1 xw xa HTS
  have x0 := HT4.out.cells.1
  have x1 := HT4.out.cells.2
  have xa := pw_cell_below HT4.out.below XA.out
  by_cases hk0 : kd < 0
  · have hv : r = ⟨0, 0, 0, 0, 0, 0, rd ats 0, 2⟩ := by
      have := HR.out
      unfold revQ at this
      rw [if_neg h60, if_pos (by rw [← HKK.out]; exact hk0)] at this
      exact this
    have e2 : decide (kd < 0) = true := decide_eq_true hk0
    obtain ⟨⟨y0, y1, y2, y3, y4, y5, y6, y7⟩, f0, f1, f2, f3, f4, f5, f6, f7⟩ := HT4.out.zero
    go_wp2
    have hd : ((((((((((w4).setCell ⟨g6, 0, none⟩ (.int .i64 0)).setCell ⟨g6, 1, none⟩ (.int .i64 0)).setCell ⟨g6, 2, none⟩ (.int .i64 0)).setCell ⟨g6, 3, none⟩ (.int .i64 0)).setCell ⟨g6, 4, none⟩ (.int .i64 0)).setCell ⟨g6, 5, none⟩ (.int .i64 0)).setCell ⟨g6, 6, none⟩ (.int .i64 (rd ats 0))).setCell ⟨g6, 7, none⟩ (.int .i64 2)).heap[g6]? = some (.cells #[.int .i64 0, .int .i64 0, .int .i64 0, .int .i64 0, .int .i64 0, .int .i64 0, .int .i64 (rd ats 0), .int .i64 2] 88 (0, 0))) ∧ Below W.heap.size W (((((((((w4).setCell ⟨g6, 0, none⟩ (.int .i64 0)).setCell ⟨g6, 1, none⟩ (.int .i64 0)).setCell ⟨g6, 2, none⟩ (.int .i64 0)).setCell ⟨g6, 3, none⟩ (.int .i64 0)).setCell ⟨g6, 4, none⟩ (.int .i64 0)).setCell ⟨g6, 5, none⟩ (.int .i64 0)).setCell ⟨g6, 6, none⟩ (.int .i64 (rd ats 0))).setCell ⟨g6, 7, none⟩ (.int .i64 2)) := HT4.out.done ⟨0, 0, 0, 0, 0, 0, (rd ats 0), 2⟩
    obtain ⟨Wf, hWf⟩ : ∃ Wf, Wf = ((((((((w4).setCell ⟨g6, 0, none⟩ (.int .i64 0)).setCell ⟨g6, 1, none⟩ (.int .i64 0)).setCell ⟨g6, 2, none⟩ (.int .i64 0)).setCell ⟨g6, 3, none⟩ (.int .i64 0)).setCell ⟨g6, 4, none⟩ (.int .i64 0)).setCell ⟨g6, 5, none⟩ (.int .i64 0)).setCell ⟨g6, 6, none⟩ (.int .i64 (rd ats 0))).setCell ⟨g6, 7, none⟩ (.int .i64 2) := ⟨_, rfl⟩
    rw [← hWf] at hd ⊢
    obtain ⟨hq, hB⟩ := hd
    have z0 : Wf.cell? ⟨g6, 0, none⟩ = some (.int .i64 0) := (blk_cell hq 0).trans rfl
    have z1 : Wf.cell? ⟨g6, 1, none⟩ = some (.int .i64 0) := (blk_cell hq 1).trans rfl
    have z2 : Wf.cell? ⟨g6, 2, none⟩ = some (.int .i64 0) := (blk_cell hq 2).trans rfl
    have z3 : Wf.cell? ⟨g6, 3, none⟩ = some (.int .i64 0) := (blk_cell hq 3).trans rfl
    have z4 : Wf.cell? ⟨g6, 4, none⟩ = some (.int .i64 0) := (blk_cell hq 4).trans rfl
    have z5 : Wf.cell? ⟨g6, 5, none⟩ = some (.int .i64 0) := (blk_cell hq 5).trans rfl
    have z6 : Wf.cell? ⟨g6, 6, none⟩ = some (.int .i64 (rd ats 0)) := (blk_cell hq 6).trans rfl
    have z7 : Wf.cell? ⟨g6, 7, none⟩ = some (.int .i64 2) := (blk_cell hq 7).trans rfl
    clear hWf hq
    refine bodyPost_ret (v := .agg #[.int .i64 0, .int .i64 0, .int .i64 0, .int .i64 0, .int .i64 0, .int .i64 0, .int .i64 (rd ats 0), .int .i64 2]) (by simp [results, Tryd.results63, go_sem, z0, z1, z2, z3, z4, z5, z6, z7]) rfl ⟨by rw [hv], hB⟩
  have e2 : decide (kd < 0) = false := decide_eq_false hk0
  have HK0 : Hid (0 ≤ kindW (rdOf ByteArray.empty ws 0)) := Lib.hid (by rw [← HKK.out]; omega)
  obtain ⟨Q0, hQ0⟩ : ∃ Q0 : Q8, Q0 = ⟨kd, 0, 0, 0, 1, 0, 0, 0⟩ := ⟨_, rfl⟩
  obtain ⟨r1, hr1⟩ : ∃ r1, r1 = numQ ws ats en Q0 0 9999 := ⟨_, rfl⟩
  have HQ0 := Lib.hid hQ0
  have HR1 := Lib.hid hr1
  have hN1 : Hid (∀ w, Below W.heap.size W w → Calls Tryd.prog 92 #[.agg #[.slice (some ⟨wb, wo, wl⟩) ws.length cw, .slice (some ⟨ab, ao, al⟩) ats.length ca], .agg #[.int .i64 kd, .int .i64 0, .int .i64 0, .int .i64 0, .int .i64 1, .int .i64 0, .int .i64 0, .int .i64 0], .int .i64 0, .int .i64 9999, .int .i64 en] w fun e w' => e = .returned (.agg #[.int .i64 r1.x0, .int .i64 r1.x1, .int .i64 r1.x2, .int .i64 r1.x3, .int .i64 r1.i, .int .i64 r1.n, .int .i64 r1.a, .int .i64 r1.e]) ∧ Below w.heap.size w w') := Lib.hid (fun w hb => by
    have := hNB.out Q0 0 9999 w (by rw [hQ0]; show (0 : Int) ≤ 1; decide) hb
    rw [← hr1, hQ0] at this
    exact this)
  obtain ⟨qa, hqa⟩ : ∃ qa, qa = q1 ws ats en kd := ⟨_, rfl⟩
  have hqr : qa = { r1 with x1 := r1.n } := by rw [hqa, hr1, hQ0]; rfl
  have HQR := Lib.hid hqr
  have HQA := Lib.hid hqa
  have hqi := q1_i ws ats en kd
  rw [← hqa] at hqi
  clear hr1 hQ0 hqr hqa
  go_upto_region 7 with (first
    | (go_at_call 92; refine (hN1.out _ HT4.out.below).mono ?_; rintro x w5 ⟨rfl, hb5⟩; have HT5 := Lib.hid (HT4.out.call hb5); clear hb5)
    | ((with_reducible refine gate_dst (N := 8) rfl ?_); refine box_event ?hg (N := 8) ?hd (cs := #[.int .i64 0, .int .i64 0, .int .i64 0, .int .i64 0, .int .i64 0, .int .i64 0, .int .i64 0, .int .i64 0]) (t := 88) ?hr ?_; (case hd => rfl); (case hg => rfl); (case hr => first | (go_simp; done) | (go_simp; rfl)); intro g8 hg8 w6 hbox hb; have HX6 : Hid (RX W w6 g3 g6 g8 (some ⟨wb, wo, wl⟩) ws.length cw (some ⟨ab, ao, al⟩) ats.length ca ⟨0, 0, 0, 0, 0, 0, 0, 0⟩) := Lib.hid (by have h5 := HT5.out; have l3 := blk_lt h5.line; have l6 := blk_lt h5.res; have hz := h5.below.size; exact ⟨h5.call hb, hbox, by omega, by omega, by omega⟩); obtain ⟨⟨y0, y1, y2, y3, y4, y5, y6, y7⟩, f0, f1, f2, f3, f4, f5, f6, f7⟩ := HX6.out.cells; clear hbox hb hg8 HT5))
  obtain ⟨W7, hW7⟩ : ∃ W7, W7 = ((((((((w6).setCell ⟨g8, 0, none⟩ (.int .i64 r1.x0)).setCell ⟨g8, 1, none⟩ (.int .i64 r1.x1)).setCell ⟨g8, 2, none⟩ (.int .i64 r1.x2)).setCell ⟨g8, 3, none⟩ (.int .i64 r1.x3)).setCell ⟨g8, 4, none⟩ (.int .i64 r1.i)).setCell ⟨g8, 5, none⟩ (.int .i64 r1.n)).setCell ⟨g8, 6, none⟩ (.int .i64 r1.a)).setCell ⟨g8, 7, none⟩ (.int .i64 r1.e) := ⟨_, rfl⟩
  have HX7 : Hid (RX W W7 g3 g6 g8 (some ⟨wb, wo, wl⟩) ws.length cw (some ⟨ab, ao, al⟩) ats.length ca r1) := Lib.hid (by rw [hW7]; exact HX6.out.all r1)
  rw [← hW7]
  clear hW7 HX6 x0 x1 xa y0 y1 y2 y3 y4 y5 y6 y7 f0 f1 f2 f3 f4 f5 f6 f7 hN1 HT4
  obtain ⟨⟨y0, y1, y2, y3, y4, y5, y6, y7⟩, f0, f1, f2, f3, f4, f5, f6, f7⟩ := HX7.out.cells
  go_upto_region 8 with (fail)
  obtain ⟨W8, hW8⟩ : ∃ W8, W8 = W7.setCell ⟨g8, 1, none⟩ (.int .i64 r1.n) := ⟨_, rfl⟩
  have HX8 : Hid (RX W W8 g3 g6 g8 (some ⟨wb, wo, wl⟩) ws.length cw (some ⟨ab, ao, al⟩) ats.length ca qa) := Lib.hid (by rw [hW8, HQR.out]; exact HX7.out.set1 r1.n)
  rw [← hW8]
  clear hW8 HX7 y0 y1 y2 y3 y4 y5 y6 y7 f0 f1 f2 f3 f4 f5 f6 f7 HQR HR1 HQ0
  have hnl := names_len evs
  go_upto_region 9 with (first
    | (go_at_call 46; refine (hNM.out _ HX8.out.t.below).mono ?_; rintro x w12 ⟨v12, rfl, hR12, hb12⟩; obtain ⟨A12, c12, rfl, hc12, hC12⟩ := Kd.R_reads hR12; have HX12 := Lib.hid (HX8.out.call hb12); have HC12 := Lib.hid hC12; have HP12 := Lib.hid hc12; clear hb12 hR12 hC12 hc12))
  clear HX8
  obtain ⟨nms, hnms⟩ : ∃ nms, nms = namesF evs := ⟨_, rfl⟩
  rw [← hnms] at HC12 HP12 hnl ⊢
  have hsv : seventhB evs qa.n = (decide (nms.length = 6) && !nms.contains qa.n) := by rw [hnms]; rfl
  have HSV := Lib.hid hsv
  have hCO : Hid (Calls Tryd.prog 82 #[.slice A12 nms.length c12, .int .i64 qa.n] w12 fun e w' => e = .returned (.bool (nms.contains qa.n)) ∧ Drawn0 w12 w') := Lib.hid (by
    obtain ⟨K, e⟩ := phas_f nms qa.n (by omega)
    exact recantref02_Has.calls K A12 c12 nms qa.n _ w12 HC12.out HP12.out (e K (Nat.le_refl _)))
  clear hsv hnms HC12 HP12
  obtain ⟨⟨y0, y1, y2, y3, y4, y5, y6, y7⟩, f0, f1, f2, f3, f4, f5, f6, f7⟩ := HX12.out.cells
  clear f0 f1 f2 f3 f4 f5 f6 f7
  go_cut [56] (fun v56 wx => v56 = .bool (decide (qa.e = 0) && seventhB evs qa.n) ∧ Hid (RX W wx g3 g6 g8 (some ⟨wb, wo, wl⟩) ws.length cw (some ⟨ab, ao, al⟩) ats.length ca qa))
  case first =>
    by_cases he0 : qa.e = 0
    · have e7 : (qa.e == 0) = true := by simpa using he0
      have HE0 := Lib.hid he0
      clear he0
      by_cases h6 : nms.length = 6
      · have e6 : ((nms.length : Int) == 6) = true := by simp; omega
        have H6 := Lib.hid h6
        clear h6
        go_wp2_with (first
          | (go_at_call 82; refine hCO.out.mono ?_; rintro x w13 ⟨rfl, ⟨m13, hm13⟩⟩; have HX13 : Hid (RX W w13 g3 g6 g8 (some ⟨wb, wo, wl⟩) ws.length cw (some ⟨ab, ao, al⟩) ats.length ca qa) := Lib.hid (by rw [hm13]; exact HX12.out.drewN m13); clear hm13))
        go_meet
        exact ⟨by rw [HSV.out, decide_eq_true H6.out, decide_eq_true HE0.out]; simp, HX13⟩
      · have e6 : ((nms.length : Int) == 6) = false := by simp; omega
        have H6 := Lib.hid h6
        clear h6
        go_wp2_with (fail)
        go_meet
        exact ⟨by rw [HSV.out, decide_eq_false H6.out, decide_eq_true HE0.out]; simp, HX12⟩
    · have e7 : (qa.e == 0) = false := by simpa using he0
      have HE0 := Lib.hid he0
      clear he0
      go_wp2_with (fail)
      go_meet
      exact ⟨by rw [decide_eq_false HE0.out]; simp, HX12⟩
  case rest =>
  obtain ⟨hv56, HX14⟩ := hcut
  subst hv56
  clear HX12 hCO HSV y0 y1 y2 y3 y4 y5 y6 y7
  obtain ⟨sv, hsv⟩ : ∃ sv, sv = (decide (qa.e = 0) && seventhB evs qa.n) := ⟨_, rfl⟩
  rw [← hsv]
  have HS := Lib.hid hsv
  clear hsv
  go_upto_if 56 with (fail)
  cases sv with
  | true =>
    have hs2 := HS.out
    have hone : 1 < ws.length := by
      have h1 : qa.e = 0 := by
        have := hs2.symm
        simp only [Bool.and_eq_true, decide_eq_true_eq] at this
        exact this.1
      rw [HQA.out] at h1
      exact q1_one h1
    have hv : r = ⟨0, 0, 0, 0, 0, 0, rd ats 1, 5⟩ := by
      have := HR.out
      unfold revQ at this
      rw [if_neg h60, if_neg (Int.not_lt.2 HK0.out), ← HKK.out, ← HQA.out, ← hs2, if_pos rfl] at this
      exact this
    obtain ⟨⟨y0, y1, y2, y3, y4, y5, y6, y7⟩, f0, f1, f2, f3, f4, f5, f6, f7⟩ := HX14.out.t.zero
    have x1 := HX14.out.t.cells.2
    obtain ⟨ad, had, xa⟩ := Kd.at_int HA.out (1 : Int) (by decide) (by rw [← HL.out]; omega)
    cases had
    rw [show (1 : Int).toNat = 1 from rfl] at xa
    have hadd : (⟨ab, ao, al⟩ : Addr).add 1 = ⟨ab, ao + 1, none⟩ := by simp [Addr.add]
    rw [hadd] at xa
    replace xa := pw_cell_below HX14.out.t.below xa
    have ha1 : 1 < ats.length := by have := HL.out; omega
    have ha0 : (1 : Int) < ats.length := by omega
    clear hs2 HS
    go_wp2
    have hd : ((((((((((wc).setCell ⟨g6, 0, none⟩ (.int .i64 0)).setCell ⟨g6, 1, none⟩ (.int .i64 0)).setCell ⟨g6, 2, none⟩ (.int .i64 0)).setCell ⟨g6, 3, none⟩ (.int .i64 0)).setCell ⟨g6, 4, none⟩ (.int .i64 0)).setCell ⟨g6, 5, none⟩ (.int .i64 0)).setCell ⟨g6, 6, none⟩ (.int .i64 (rd ats 1))).setCell ⟨g6, 7, none⟩ (.int .i64 5)).heap[g6]? = some (.cells #[.int .i64 0, .int .i64 0, .int .i64 0, .int .i64 0, .int .i64 0, .int .i64 0, .int .i64 (rd ats 1), .int .i64 5] 88 (0, 0))) ∧ Below W.heap.size W (((((((((wc).setCell ⟨g6, 0, none⟩ (.int .i64 0)).setCell ⟨g6, 1, none⟩ (.int .i64 0)).setCell ⟨g6, 2, none⟩ (.int .i64 0)).setCell ⟨g6, 3, none⟩ (.int .i64 0)).setCell ⟨g6, 4, none⟩ (.int .i64 0)).setCell ⟨g6, 5, none⟩ (.int .i64 0)).setCell ⟨g6, 6, none⟩ (.int .i64 (rd ats 1))).setCell ⟨g6, 7, none⟩ (.int .i64 5)) := HX14.out.t.done ⟨0, 0, 0, 0, 0, 0, (rd ats 1), 5⟩
    obtain ⟨Wf, hWf⟩ : ∃ Wf, Wf = ((((((((wc).setCell ⟨g6, 0, none⟩ (.int .i64 0)).setCell ⟨g6, 1, none⟩ (.int .i64 0)).setCell ⟨g6, 2, none⟩ (.int .i64 0)).setCell ⟨g6, 3, none⟩ (.int .i64 0)).setCell ⟨g6, 4, none⟩ (.int .i64 0)).setCell ⟨g6, 5, none⟩ (.int .i64 0)).setCell ⟨g6, 6, none⟩ (.int .i64 (rd ats 1))).setCell ⟨g6, 7, none⟩ (.int .i64 5) := ⟨_, rfl⟩
    rw [← hWf] at hd ⊢
    obtain ⟨hq, hB⟩ := hd
    have z0 : Wf.cell? ⟨g6, 0, none⟩ = some (.int .i64 0) := (blk_cell hq 0).trans rfl
    have z1 : Wf.cell? ⟨g6, 1, none⟩ = some (.int .i64 0) := (blk_cell hq 1).trans rfl
    have z2 : Wf.cell? ⟨g6, 2, none⟩ = some (.int .i64 0) := (blk_cell hq 2).trans rfl
    have z3 : Wf.cell? ⟨g6, 3, none⟩ = some (.int .i64 0) := (blk_cell hq 3).trans rfl
    have z4 : Wf.cell? ⟨g6, 4, none⟩ = some (.int .i64 0) := (blk_cell hq 4).trans rfl
    have z5 : Wf.cell? ⟨g6, 5, none⟩ = some (.int .i64 0) := (blk_cell hq 5).trans rfl
    have z6 : Wf.cell? ⟨g6, 6, none⟩ = some (.int .i64 (rd ats 1)) := (blk_cell hq 6).trans rfl
    have z7 : Wf.cell? ⟨g6, 7, none⟩ = some (.int .i64 5) := (blk_cell hq 7).trans rfl
    clear hWf hq
    refine bodyPost_ret (v := .agg #[.int .i64 0, .int .i64 0, .int .i64 0, .int .i64 0, .int .i64 0, .int .i64 0, .int .i64 (rd ats 1), .int .i64 5]) (by simp [results, Tryd.results63, go_sem, z0, z1, z2, z3, z4, z5, z6, z7]) rfl ⟨by rw [hv], hB⟩
  | false =>
  have HS2 := Lib.hid HS.out.symm
  clear HS
  obtain ⟨qb, hqb⟩ : ∃ qb, qb = q2 ws ats en kd qa := ⟨_, rfl⟩
  have hqbi := q2_i ws ats en kd qa hqi
  rw [← hqb] at hqbi
  have Hqb := Lib.hid hqb
  clear hqb
  go_upto_if 63 with (first
    | (go_at_call 48; refine (hVB.out _ _).mono ?_; rintro x w9 ⟨rfl, ⟨m9, hm9⟩⟩; have HHX15A : Hid (RX W w9 g3 g6 g8 (some ⟨wb, wo, wl⟩) ws.length cw (some ⟨ab, ao, al⟩) ats.length ca qa) := Lib.hid (by rw [hm9]; exact HX14.out.drewN m9); clear hm9))
  clear HX14
  obtain ⟨vb, hvb⟩ : ∃ vb, vb = varB kd := ⟨_, rfl⟩
  rw [← hvb]
  have HVB := Lib.hid hvb
  clear hvb
  go_cut [] (fun wx => Hid (RX W wx g3 g6 g8 (some ⟨wb, wo, wl⟩) ws.length cw (some ⟨ab, ao, al⟩) ats.length ca qb))
  case first =>
    cases vb with
    | false =>
      go_wp2_with (fail)
      go_meet
      have hx : qb = qa := by rw [Hqb.out]; unfold q2; rw [← HVB.out, if_neg (by simp)]
      rw [hx]
      exact HHX15A
    | true =>
      obtain ⟨r2, hr2⟩ : ∃ r2, r2 = numQ ws ats en qa 0 7 := ⟨_, rfl⟩
      have hx : qb = { r2 with x2 := r2.n } := by rw [Hqb.out, hr2]; unfold q2; rw [← HVB.out, if_pos rfl]
      have HX := Lib.hid hx
      have hN2 := hNB.out qa 0 7
      rw [← hr2] at hN2
      have HN2 := Lib.hid hN2
      clear hr2 hx hN2
      have x0 := HHX15A.out.t.cells.1
      have x1 := HHX15A.out.t.cells.2
      obtain ⟨⟨y0, y1, y2, y3, y4, y5, y6, y7⟩, f0, f1, f2, f3, f4, f5, f6, f7⟩ := HHX15A.out.cells
      clear f0 f1 f2 f3 f4 f5 f6 f7
      go_upto_region 13 with (first
        | (go_at_call 92; refine (HN2.out _ hqi.1 HHX15A.out.t.below).mono ?_; rintro x w10 ⟨rfl, hb10⟩; have HHX15B := Lib.hid (HHX15A.out.call hb10); clear hb10 x0 x1 y0 y1 y2 y3 y4 y5 y6 y7; obtain ⟨⟨y0, y1, y2, y3, y4, y5, y6, y7⟩, f0, f1, f2, f3, f4, f5, f6, f7⟩ := HHX15B.out.cells))
      obtain ⟨W11, hW11⟩ : ∃ W11, W11 = ((((((((w10).setCell ⟨g8, 0, none⟩ (.int .i64 r2.x0)).setCell ⟨g8, 1, none⟩ (.int .i64 r2.x1)).setCell ⟨g8, 2, none⟩ (.int .i64 r2.x2)).setCell ⟨g8, 3, none⟩ (.int .i64 r2.x3)).setCell ⟨g8, 4, none⟩ (.int .i64 r2.i)).setCell ⟨g8, 5, none⟩ (.int .i64 r2.n)).setCell ⟨g8, 6, none⟩ (.int .i64 r2.a)).setCell ⟨g8, 7, none⟩ (.int .i64 r2.e) := ⟨_, rfl⟩
      have HHX15C : Hid (RX W W11 g3 g6 g8 (some ⟨wb, wo, wl⟩) ws.length cw (some ⟨ab, ao, al⟩) ats.length ca r2) := Lib.hid (by rw [hW11]; exact HHX15B.out.all r2)
      rw [← hW11]
      clear hW11 y0 y1 y2 y3 y4 y5 y6 y7 f0 f1 f2 f3 f4 f5 f6 f7 HHX15B
      obtain ⟨⟨y0, y1, y2, y3, y4, y5, y6, y7⟩, f0, f1, f2, f3, f4, f5, f6, f7⟩ := HHX15C.out.cells
      go_wp2_with (fail)
      go_meet
      rw [HX.out]
      exact Lib.hid (HHX15C.out.set2 r2.n)
  case rest =>
  have HHX15 := hcut
  clear hcut HHX15A HVB
  obtain ⟨qc, hqc⟩ : ∃ qc, qc = q3 ws ats en kd qb := ⟨_, rfl⟩
  have hqci := q3_i ws ats en kd qb hqbi
  rw [← hqc] at hqci
  have Hqc := Lib.hid hqc
  clear hqc
  go_upto_if 73 with (first
    | (go_at_call 49; refine (hZB.out _ _).mono ?_; rintro x w9 ⟨rfl, ⟨m9, hm9⟩⟩; have HHX16A : Hid (RX W w9 g3 g6 g8 (some ⟨wb, wo, wl⟩) ws.length cw (some ⟨ab, ao, al⟩) ats.length ca qb) := Lib.hid (by rw [hm9]; exact HHX15.out.drewN m9); clear hm9))
  clear HHX15
  obtain ⟨vb, hvb⟩ : ∃ vb, vb = valB kd := ⟨_, rfl⟩
  rw [← hvb]
  have HVB := Lib.hid hvb
  clear hvb
  go_cut [] (fun wx => Hid (RX W wx g3 g6 g8 (some ⟨wb, wo, wl⟩) ws.length cw (some ⟨ab, ao, al⟩) ats.length ca qc))
  case first =>
    cases vb with
    | false =>
      go_wp2_with (fail)
      go_meet
      have hx : qc = qb := by rw [Hqc.out]; unfold q3; rw [← HVB.out, if_neg (by simp)]
      rw [hx]
      exact HHX16A
    | true =>
      obtain ⟨r2, hr2⟩ : ∃ r2, r2 = numQ ws ats en qb (-2147483648) 2147483647 := ⟨_, rfl⟩
      have hx : qc = { r2 with x3 := r2.n } := by rw [Hqc.out, hr2]; unfold q3; rw [← HVB.out, if_pos rfl]
      have HX := Lib.hid hx
      have hN2 := hNB.out qb (-2147483648) 2147483647
      rw [← hr2] at hN2
      have HN2 := Lib.hid hN2
      clear hr2 hx hN2
      have x0 := HHX16A.out.t.cells.1
      have x1 := HHX16A.out.t.cells.2
      obtain ⟨⟨y0, y1, y2, y3, y4, y5, y6, y7⟩, f0, f1, f2, f3, f4, f5, f6, f7⟩ := HHX16A.out.cells
      clear f0 f1 f2 f3 f4 f5 f6 f7
      go_upto_region 16 with (first
        | (go_at_call 92; refine (HN2.out _ hqbi.1 HHX16A.out.t.below).mono ?_; rintro x w10 ⟨rfl, hb10⟩; have HHX16B := Lib.hid (HHX16A.out.call hb10); clear hb10 x0 x1 y0 y1 y2 y3 y4 y5 y6 y7; obtain ⟨⟨y0, y1, y2, y3, y4, y5, y6, y7⟩, f0, f1, f2, f3, f4, f5, f6, f7⟩ := HHX16B.out.cells))
      obtain ⟨W11, hW11⟩ : ∃ W11, W11 = ((((((((w10).setCell ⟨g8, 0, none⟩ (.int .i64 r2.x0)).setCell ⟨g8, 1, none⟩ (.int .i64 r2.x1)).setCell ⟨g8, 2, none⟩ (.int .i64 r2.x2)).setCell ⟨g8, 3, none⟩ (.int .i64 r2.x3)).setCell ⟨g8, 4, none⟩ (.int .i64 r2.i)).setCell ⟨g8, 5, none⟩ (.int .i64 r2.n)).setCell ⟨g8, 6, none⟩ (.int .i64 r2.a)).setCell ⟨g8, 7, none⟩ (.int .i64 r2.e) := ⟨_, rfl⟩
      have HHX16C : Hid (RX W W11 g3 g6 g8 (some ⟨wb, wo, wl⟩) ws.length cw (some ⟨ab, ao, al⟩) ats.length ca r2) := Lib.hid (by rw [hW11]; exact HHX16B.out.all r2)
      rw [← hW11]
      clear hW11 y0 y1 y2 y3 y4 y5 y6 y7 f0 f1 f2 f3 f4 f5 f6 f7 HHX16B
      obtain ⟨⟨y0, y1, y2, y3, y4, y5, y6, y7⟩, f0, f1, f2, f3, f4, f5, f6, f7⟩ := HHX16C.out.cells
      go_wp2_with (fail)
      go_meet
      rw [HX.out]
      exact Lib.hid (HHX16C.out.set3 r2.n)
  case rest =>
  have HHX16 := hcut
  clear hcut HHX16A HVB
  have HX20 := HHX16
  clear HHX16
  have hv3 : r = if (qc.e = 0 ∧ qc.i < (ws.length : Int)) then ⟨0, 0, 0, 0, 0, 0, rd ats qc.i, 2⟩ else qc := by
    have := HR.out
    unfold revQ at this
    rw [if_neg h60, if_neg (Int.not_lt.2 HK0.out), ← HKK.out, ← HQA.out, HS2.out, if_neg (by simp), ← Hqb.out, ← Hqc.out] at this
    exact this
  have HV3 := Lib.hid hv3
  clear hv3
  have x0 := HX20.out.t.cells.1
  have x1 := HX20.out.t.cells.2
  obtain ⟨⟨y0, y1, y2, y3, y4, y5, y6, y7⟩, f0, f1, f2, f3, f4, f5, f6, f7⟩ := HX20.out.cells
  clear f0 f1 f2 f3 f4 f5 f6 f7
  go_upto_region 17 with (fail)
  go_cut [92] (fun v92 wx => v92 = .bool (decide (qc.e = 0) && decide (qc.i < (ws.length : Int))) ∧ Hid (RX W wx g3 g6 g8 (some ⟨wb, wo, wl⟩) ws.length cw (some ⟨ab, ao, al⟩) ats.length ca qc))
  case first =>
    by_cases he0 : qc.e = 0
    · have e7 : (qc.e == 0) = true := by simpa using he0
      have HE0 := Lib.hid he0
      clear he0
      go_wp2_with (fail)
      go_meet
      exact ⟨by rw [decide_eq_true HE0.out]; simp, HX20⟩
    · have e7 : (qc.e == 0) = false := by simpa using he0
      have HE0 := Lib.hid he0
      clear he0
      go_wp2_with (fail)
      go_meet
      exact ⟨by rw [decide_eq_false HE0.out]; simp, HX20⟩
  case rest =>
  obtain ⟨hv92, HX21⟩ := hcut
  subst hv92
  clear HX20 x0 x1 y0 y1 y2 y3 y4 y5 y6 y7
  by_cases hlast : qc.e = 0 ∧ qc.i < (ws.length : Int)
  · have hb : (decide (qc.e = 0) && decide (qc.i < (ws.length : Int))) = true := by rw [decide_eq_true hlast.1, decide_eq_true hlast.2]; rfl
    rw [hb]
    have hv : r = ⟨0, 0, 0, 0, 0, 0, rd ats qc.i, 2⟩ := by rw [HV3.out, if_pos hlast]
    obtain ⟨j, hj⟩ := Int.eq_ofNat_of_zero_le hqci.1
    have hj2 : (j : Int) < ws.length := by rw [← hj]; exact hlast.2
    have x1 := HX21.out.t.cells.2
    have hyi : wc.cell? ⟨g8, 4, none⟩ = some (.int .i64 (j : Int)) := by rw [← hj]; exact HX21.out.cells.1.2.2.2.2.1
    rw [hj] at hv
    obtain ⟨ad, had, xa⟩ := Kd.at_int HA.out (j : Int) (by omega) (by rw [← HL.out]; omega)
    cases had
    rw [Int.toNat_natCast] at xa
    replace xa := pw_cell_below HX21.out.t.below xa
    obtain ⟨⟨y0, y1, y2, y3, y4, y5, y6, y7⟩, f0, f1, f2, f3, f4, f5, f6, f7⟩ := HX21.out.t.zero
    have ha1 : j < ats.length := by have := HL.out; omega
    have ha0 : (j : Int) < ats.length := by omega
    have ha2 : (0 : Int) ≤ (j : Int) := by omega
    clear hb hlast hj HV3
    go_wp2
    have hd : ((((((((((wc).setCell ⟨g6, 0, none⟩ (.int .i64 0)).setCell ⟨g6, 1, none⟩ (.int .i64 0)).setCell ⟨g6, 2, none⟩ (.int .i64 0)).setCell ⟨g6, 3, none⟩ (.int .i64 0)).setCell ⟨g6, 4, none⟩ (.int .i64 0)).setCell ⟨g6, 5, none⟩ (.int .i64 0)).setCell ⟨g6, 6, none⟩ (.int .i64 (rd ats (j : Int)))).setCell ⟨g6, 7, none⟩ (.int .i64 2)).heap[g6]? = some (.cells #[.int .i64 0, .int .i64 0, .int .i64 0, .int .i64 0, .int .i64 0, .int .i64 0, .int .i64 (rd ats (j : Int)), .int .i64 2] 88 (0, 0))) ∧ Below W.heap.size W (((((((((wc).setCell ⟨g6, 0, none⟩ (.int .i64 0)).setCell ⟨g6, 1, none⟩ (.int .i64 0)).setCell ⟨g6, 2, none⟩ (.int .i64 0)).setCell ⟨g6, 3, none⟩ (.int .i64 0)).setCell ⟨g6, 4, none⟩ (.int .i64 0)).setCell ⟨g6, 5, none⟩ (.int .i64 0)).setCell ⟨g6, 6, none⟩ (.int .i64 (rd ats (j : Int)))).setCell ⟨g6, 7, none⟩ (.int .i64 2)) := HX21.out.t.done ⟨0, 0, 0, 0, 0, 0, (rd ats (j : Int)), 2⟩
    obtain ⟨Wf, hWf⟩ : ∃ Wf, Wf = ((((((((wc).setCell ⟨g6, 0, none⟩ (.int .i64 0)).setCell ⟨g6, 1, none⟩ (.int .i64 0)).setCell ⟨g6, 2, none⟩ (.int .i64 0)).setCell ⟨g6, 3, none⟩ (.int .i64 0)).setCell ⟨g6, 4, none⟩ (.int .i64 0)).setCell ⟨g6, 5, none⟩ (.int .i64 0)).setCell ⟨g6, 6, none⟩ (.int .i64 (rd ats (j : Int)))).setCell ⟨g6, 7, none⟩ (.int .i64 2) := ⟨_, rfl⟩
    rw [← hWf] at hd ⊢
    obtain ⟨hq, hB⟩ := hd
    have z0 : Wf.cell? ⟨g6, 0, none⟩ = some (.int .i64 0) := (blk_cell hq 0).trans rfl
    have z1 : Wf.cell? ⟨g6, 1, none⟩ = some (.int .i64 0) := (blk_cell hq 1).trans rfl
    have z2 : Wf.cell? ⟨g6, 2, none⟩ = some (.int .i64 0) := (blk_cell hq 2).trans rfl
    have z3 : Wf.cell? ⟨g6, 3, none⟩ = some (.int .i64 0) := (blk_cell hq 3).trans rfl
    have z4 : Wf.cell? ⟨g6, 4, none⟩ = some (.int .i64 0) := (blk_cell hq 4).trans rfl
    have z5 : Wf.cell? ⟨g6, 5, none⟩ = some (.int .i64 0) := (blk_cell hq 5).trans rfl
    have z6 : Wf.cell? ⟨g6, 6, none⟩ = some (.int .i64 (rd ats (j : Int))) := (blk_cell hq 6).trans rfl
    have z7 : Wf.cell? ⟨g6, 7, none⟩ = some (.int .i64 2) := (blk_cell hq 7).trans rfl
    clear hWf hq
    refine bodyPost_ret (v := .agg #[.int .i64 0, .int .i64 0, .int .i64 0, .int .i64 0, .int .i64 0, .int .i64 0, .int .i64 (rd ats (j : Int)), .int .i64 2]) (by simp [results, Tryd.results63, go_sem, z0, z1, z2, z3, z4, z5, z6, z7]) rfl ⟨by rw [hv], hB⟩
  · have hb : (decide (qc.e = 0) && decide (qc.i < (ws.length : Int))) = false := by
      by_cases h : qc.e = 0
      · rw [decide_eq_true h, decide_eq_false (fun h2 => hlast ⟨h, h2⟩)]; rfl
      · rw [decide_eq_false h]; rfl
    rw [hb]
    have hv : r = qc := by rw [HV3.out, if_neg hlast]
    clear hb hlast HV3
    obtain ⟨⟨y0, y1, y2, y3, y4, y5, y6, y7⟩, f0, f1, f2, f3, f4, f5, f6, f7⟩ := HX21.out.t.zero
    obtain ⟨⟨p0, p1, p2, p3, p4, p5, p6, p7⟩, u0, u1, u2, u3, u4, u5, u6, u7⟩ := HX21.out.cells
    clear u0 u1 u2 u3 u4 u5 u6 u7
    have hn5 := HX21.out.n6
    have hn6 := Ne.symm hn5
    go_wp2
    have hd : ((((((((((wc).setCell ⟨g6, 0, none⟩ (.int .i64 qc.x0)).setCell ⟨g6, 1, none⟩ (.int .i64 qc.x1)).setCell ⟨g6, 2, none⟩ (.int .i64 qc.x2)).setCell ⟨g6, 3, none⟩ (.int .i64 qc.x3)).setCell ⟨g6, 4, none⟩ (.int .i64 qc.i)).setCell ⟨g6, 5, none⟩ (.int .i64 qc.n)).setCell ⟨g6, 6, none⟩ (.int .i64 qc.a)).setCell ⟨g6, 7, none⟩ (.int .i64 qc.e)).heap[g6]? = some (.cells #[.int .i64 qc.x0, .int .i64 qc.x1, .int .i64 qc.x2, .int .i64 qc.x3, .int .i64 qc.i, .int .i64 qc.n, .int .i64 qc.a, .int .i64 qc.e] 88 (0, 0))) ∧ Below W.heap.size W (((((((((wc).setCell ⟨g6, 0, none⟩ (.int .i64 qc.x0)).setCell ⟨g6, 1, none⟩ (.int .i64 qc.x1)).setCell ⟨g6, 2, none⟩ (.int .i64 qc.x2)).setCell ⟨g6, 3, none⟩ (.int .i64 qc.x3)).setCell ⟨g6, 4, none⟩ (.int .i64 qc.i)).setCell ⟨g6, 5, none⟩ (.int .i64 qc.n)).setCell ⟨g6, 6, none⟩ (.int .i64 qc.a)).setCell ⟨g6, 7, none⟩ (.int .i64 qc.e)) := HX21.out.t.done ⟨qc.x0, qc.x1, qc.x2, qc.x3, qc.i, qc.n, qc.a, qc.e⟩
    obtain ⟨Wf, hWf⟩ : ∃ Wf, Wf = ((((((((wc).setCell ⟨g6, 0, none⟩ (.int .i64 qc.x0)).setCell ⟨g6, 1, none⟩ (.int .i64 qc.x1)).setCell ⟨g6, 2, none⟩ (.int .i64 qc.x2)).setCell ⟨g6, 3, none⟩ (.int .i64 qc.x3)).setCell ⟨g6, 4, none⟩ (.int .i64 qc.i)).setCell ⟨g6, 5, none⟩ (.int .i64 qc.n)).setCell ⟨g6, 6, none⟩ (.int .i64 qc.a)).setCell ⟨g6, 7, none⟩ (.int .i64 qc.e) := ⟨_, rfl⟩
    rw [← hWf] at hd ⊢
    obtain ⟨hq, hB⟩ := hd
    have z0 : Wf.cell? ⟨g6, 0, none⟩ = some (.int .i64 qc.x0) := (blk_cell hq 0).trans rfl
    have z1 : Wf.cell? ⟨g6, 1, none⟩ = some (.int .i64 qc.x1) := (blk_cell hq 1).trans rfl
    have z2 : Wf.cell? ⟨g6, 2, none⟩ = some (.int .i64 qc.x2) := (blk_cell hq 2).trans rfl
    have z3 : Wf.cell? ⟨g6, 3, none⟩ = some (.int .i64 qc.x3) := (blk_cell hq 3).trans rfl
    have z4 : Wf.cell? ⟨g6, 4, none⟩ = some (.int .i64 qc.i) := (blk_cell hq 4).trans rfl
    have z5 : Wf.cell? ⟨g6, 5, none⟩ = some (.int .i64 qc.n) := (blk_cell hq 5).trans rfl
    have z6 : Wf.cell? ⟨g6, 6, none⟩ = some (.int .i64 qc.a) := (blk_cell hq 6).trans rfl
    have z7 : Wf.cell? ⟨g6, 7, none⟩ = some (.int .i64 qc.e) := (blk_cell hq 7).trans rfl
    clear hWf hq
    refine bodyPost_ret (v := .agg #[.int .i64 qc.x0, .int .i64 qc.x1, .int .i64 qc.x2, .int .i64 qc.x3, .int .i64 qc.i, .int .i64 qc.n, .int .i64 qc.a, .int .i64 qc.e]) (by simp [results, Tryd.results63, go_sem, z0, z1, z2, z3, z4, z5, z6, z7]) rfl ⟨by rw [hv], hB⟩
theorem recantref02_event.calls (A0_0 : Option Addr) (c0_0 : Nat) (l0_0 : List ByteArray) (A0_1 : Option Addr) (c0_1 : Nat) (l0_1 : List Int) (A1 : Option Addr) (c1 : Nat) (l1 : List S34) (a2 : Int) (r1 : Int) (r2 : Int) (r3 : Int) (r4 : Int) (r5 : Int) (r6 : Int) (r7 : Int) (r8 : Int) (w : World) (hr0_0 : Kd.C Kd.string w A0_0 l0_0.length l0_0) (hc0_0 : l0_0.length ≤ c0_0) (hr0_1 : Kd.C (Kd.int .i64) w A0_1 l0_1.length l0_1) (hc0_1 : l0_1.length ≤ c0_1) (hr1 : Kd.C k34 w A1 l1.length l1) (hc1 : l1.length ≤ c1) (h : recantref02_event.f l0_0 l0_1 l1 a2 = some (r1, r2, r3, r4, r5, r6, r7, r8)) :
    Calls Tryd.prog 63 #[.agg #[.slice A0_0 l0_0.length c0_0, .slice A0_1 l0_1.length c0_1], .slice A1 l1.length c1, .int .i64 a2] w fun e w' => e = .returned (.agg #[.int .i64 r1, .int .i64 r2, .int .i64 r3, .int .i64 r4, .int .i64 r5, .int .i64 r6, .int .i64 r7, .int .i64 r8]) ∧ Below w.heap.size w w' := by
  unfold recantref02_event.f at h
  split at h
  case isFalse => cases h
  rename_i hx
  obtain ⟨h0, hl, hwl, hev, hs⟩ := hx
  have h := Option.some.inj h
  simp only [Prod.mk.injEq] at h
  obtain ⟨rfl, rfl, rfl, rfl, rfl, rfl, rfl, rfl⟩ := h
  exact revent_any A0_0 c0_0 l0_0 A0_1 c0_1 l0_1 A1 c1 l1 a2 w hr0_0 hc0_0 hr0_1 hc0_1 hr1 hc1 h0 hl hwl hev hs _ rfl
end Go.Proofs.YthkpocgbinmeiaaDoor.P

/- text.line's event, given: it asks that the table of kinds lies in the world. -/
import Derived.Test.YthkpocgbinmeiaaDoorGTEvent
import Derived.Test.YthkpocgbinmeiaaDoorGInt
import Derived.Deep.DeepCutAuto
import Derived.Deep.RegionWith
namespace Go.Proofs.YthkpocgbinmeiaaDoor.P
set_option linter.unusedVariables false
set_option linter.unusedSimpArgs false
open Go Go.RowKit Go.Proofs.YthkpocgbinmeiaaDoorW.PrintWords Go.Proofs.YthkpocgbinmeiaaDoorW.PrintLast Go.Proofs.YthkpocgbinmeiaaDoorW.PrintMore Go.Proofs.YthkpocgbinmeiaaDoor.U

/-- A word's number, in some bounds; where; what is wrong. -/
def tnum (ws : List ByteArray) (ats : List Int) (en : Int) (i lo hi : Int) : Int × Int × Int :=
  if i ≥ (ws.length : Int) then (0, en, 4)
  else if (intVal (restOf (rdOf ByteArray.empty ws i)).data.toList (minusOf (rdOf ByteArray.empty ws i))).2 = 0 ∧ inB (intVal (restOf (rdOf ByteArray.empty ws i)).data.toList (minusOf (rdOf ByteArray.empty ws i))).1 lo hi = false then ((intVal (restOf (rdOf ByteArray.empty ws i)).data.toList (minusOf (rdOf ByteArray.empty ws i))).1, rd ats i, 3)
  else ((intVal (restOf (rdOf ByteArray.empty ws i)).data.toList (minusOf (rdOf ByteArray.empty ws i))).1, rd ats i, (intVal (restOf (rdOf ByteArray.empty ws i)).data.toList (minusOf (rdOf ByteArray.empty ws i))).2)
theorem in_eq (n lo hi : Int) : text_in.f n lo hi = some (inB n lo hi) := by
  unfold text_in.f inB
  by_cases h : lo ≤ n
  · simp [h]
  · simp [h]
theorem rdOf_mem {l : List ByteArray} {i : Int} (h0 : 0 ≤ i) (h1 : i < l.length) : rdOf ByteArray.empty l i ∈ l := by
  unfold rdOf
  rw [List.getD_eq_getElem?_getD, List.getElem?_eq_getElem (by omega)]
  exact List.getElem_mem _
theorem tnum_eq (ws : List ByteArray) (ats : List Int) (en : Int) (i lo hi : Int) (hl : ws.length = ats.length) (hs : ∀ s ∈ ws, s.size ≤ 1000000) (hi0 : 0 ≤ i) : text_line_number.f ws ats en i lo hi = some (tnum ws ats en i lo hi) := by
  unfold text_line_number.f tnum
  by_cases h : i ≥ (ws.length : Int)
  · rw [if_pos h, if_pos h]
  · have hz := hs _ (rdOf_mem hi0 (by omega))
    rw [if_neg h, if_neg h, if_pos hi0, if_pos (by omega)]
    unfold word_Int.f
    rw [if_pos (by omega), Option.bind_some]
    by_cases hz : (intVal (restOf (rdOf ByteArray.empty ws i)).data.toList (minusOf (rdOf ByteArray.empty ws i))).2 = 0
    · rw [if_pos hz, in_eq, Option.bind_some]
      cases hb : inB (intVal (restOf (rdOf ByteArray.empty ws i)).data.toList (minusOf (rdOf ByteArray.empty ws i))).1 lo hi with
      | true => rw [if_pos rfl, if_pos (by omega), if_neg (by simp)]
      | false => rw [if_neg (by simp), if_pos (by omega), if_pos ⟨hz, rfl⟩]
    · rw [if_neg hz, if_pos (by omega), if_neg (fun h => hz h.1)]
def zeroE : S34 := ⟨0, 0, 0, 0⟩
/-- A line's event, behind others; where; what is wrong. -/
def tev (ws : List ByteArray) (ats : List Int) (en : Int) (evs : List S34) : S34 × Int × Int :=
  if evs.length = 60 then (zeroE, rd ats 0, 5)
  else if kindW (rdOf ByteArray.empty ws 0) < 0 then (zeroE, rd ats 0, 2)
  else
    let k := kindW (rdOf ByteArray.empty ws 0)
    let n := tnum ws ats en 1 0 9999
    if n.2.2 ≠ 0 then (zeroE, n.2.1, n.2.2)
    else if seventhB evs n.1 = true then (zeroE, n.2.1, 5)
    else
      let v := if varB k then tnum ws ats en 2 0 7 else (0, 0, 0)
      if v.2.2 ≠ 0 then (zeroE, v.2.1, v.2.2)
      else
        let z := if valB k then tnum ws ats en (if varB k then 3 else 2) (-2147483648) 2147483647 else (0, 0, 0)
        if z.2.2 ≠ 0 then (zeroE, z.2.1, z.2.2)
        else if (1 + (if varB k then 1 else 0) + (if valB k then 1 else 0)) + 1 < (ws.length : Int) then (zeroE, rd ats ((1 + (if varB k then 1 else 0) + (if valB k then 1 else 0)) + 1), 2)
        else (⟨k, n.1, v.1, z.1⟩, 0, 0)
theorem kix_in (s : ByteArray) (d : Nat) : ∀ i, kix s i d = -1 ∨ ((i : Int) ≤ kix s i d ∧ kix s i d < ((i + d : Nat) : Int)) := by
  induction d with
  | zero => intro i; exact .inl rfl
  | succ d ih =>
    intro i
    unfold kix
    split
    · right; omega
    · rcases ih (i + 1) with h | ⟨h1, h2⟩
      · exact .inl h
      · right; omega
theorem kindW_in (s : ByteArray) : kindW s = -1 ∨ (0 ≤ kindW s ∧ kindW s < 10) := by
  rcases kix_in s 10 0 with h | ⟨h1, h2⟩
  · exact .inl h
  · exact .inr ⟨h1, h2⟩
/-- A line, what is handed back, an event and its kind's copy. -/
structure TSt (W w : World) (g2 g4 : Nat) (Aw : Option Addr) (ws : List ByteArray) (cw : Nat) (Aa : Option Addr) (ats : List Int) (ca : Nat) (en : Int) : Prop where
  line : LineAt w g2 Aw ws cw Aa ats ca en
  res : w.heap[g4]? = some (.cells #[.int .i64 0, .int .i64 0, .int .i64 0, .int .i64 0] 34 (0, 0))
  below : Below W.heap.size W w
  old : W.heap.size ≤ g4
  old2 : W.heap.size ≤ g2
  ne : g2 ≠ g4
/-- .. and an event and its kind's copy. -/
structure XSt (W w : World) (g2 g4 g8 g9 : Nat) (Aw : Option Addr) (ws : List ByteArray) (cw : Nat) (Aa : Option Addr) (ats : List Int) (ca : Nat) (en : Int) (k n v z : Int) (wk : ByteArray) (vb zb : Bool) : Prop where
  t : TSt W w g2 g4 Aw ws cw Aa ats ca en
  ev : w.heap[g8]? = some (.cells #[.int .i64 k, .int .i64 n, .int .i64 v, .int .i64 z] 34 (0, 0))
  kd : w.heap[g9]? = some (.cells #[.string wk, .bool vb, .bool zb] 106 (0, 0))
  old : W.heap.size ≤ g8
  n2 : g8 ≠ g2
  n4 : g8 ≠ g4
  n9 : g8 ≠ g9
variable {W w w' : World} {g2 g4 g8 g9 : Nat} {Aw : Option Addr} {ws : List ByteArray} {cw : Nat} {Aa : Option Addr} {ats : List Int} {ca : Nat} {en k n v z : Int} {wk : ByteArray} {vb zb : Bool}
theorem TSt.call (h : TSt W w g2 g4 Aw ws cw Aa ats ca en) (hb : Below w.heap.size w w') : TSt W w' g2 g4 Aw ws cw Aa ats ca en :=
  ⟨h.line.below hb, (hb.block g4 (blk_lt h.res)).trans h.res, h.below.trans (hb.mono h.below.size), h.old, h.old2, h.ne⟩
theorem TSt.zero (h : TSt W w g2 g4 Aw ws cw Aa ats ca en) : (w.cell? ⟨g4, 0, none⟩ = some (.int .i64 0) ∧ w.cell? ⟨g4, 1, none⟩ = some (.int .i64 0) ∧ w.cell? ⟨g4, 2, none⟩ = some (.int .i64 0) ∧ w.cell? ⟨g4, 3, none⟩ = some (.int .i64 0)) ∧ w.frozen? ⟨g4, 0, none⟩ = false ∧ w.frozen? ⟨g4, 1, none⟩ = false ∧ w.frozen? ⟨g4, 2, none⟩ = false ∧ w.frozen? ⟨g4, 3, none⟩ = false :=
  ⟨⟨(blk_cell h.res 0).trans rfl, (blk_cell h.res 1).trans rfl, (blk_cell h.res 2).trans rfl, (blk_cell h.res 3).trans rfl⟩, blk_frozen h.res 0, blk_frozen h.res 1, blk_frozen h.res 2, blk_frozen h.res 3⟩
theorem TSt.done (h : TSt W w g2 g4 Aw ws cw Aa ats ca en) (a b c d : Value) : (((((w.setCell ⟨g4, 0, none⟩ a).setCell ⟨g4, 1, none⟩ b).setCell ⟨g4, 2, none⟩ c).setCell ⟨g4, 3, none⟩ d).cell? ⟨g4, 0, none⟩ = some a ∧ ((((w.setCell ⟨g4, 0, none⟩ a).setCell ⟨g4, 1, none⟩ b).setCell ⟨g4, 2, none⟩ c).setCell ⟨g4, 3, none⟩ d).cell? ⟨g4, 1, none⟩ = some b ∧ ((((w.setCell ⟨g4, 0, none⟩ a).setCell ⟨g4, 1, none⟩ b).setCell ⟨g4, 2, none⟩ c).setCell ⟨g4, 3, none⟩ d).cell? ⟨g4, 2, none⟩ = some c ∧ ((((w.setCell ⟨g4, 0, none⟩ a).setCell ⟨g4, 1, none⟩ b).setCell ⟨g4, 2, none⟩ c).setCell ⟨g4, 3, none⟩ d).cell? ⟨g4, 3, none⟩ = some d) ∧ Below W.heap.size W ((((w.setCell ⟨g4, 0, none⟩ a).setCell ⟨g4, 1, none⟩ b).setCell ⟨g4, 2, none⟩ c).setCell ⟨g4, 3, none⟩ d) := by
  have hb := blk_set (blk_set (blk_set (blk_set h.res 0 a) 1 b) 2 c) 3 d
  refine ⟨⟨(blk_cell hb 0).trans rfl, (blk_cell hb 1).trans rfl, (blk_cell hb 2).trans rfl, (blk_cell hb 3).trans rfl⟩, ?_⟩
  have ho := h.old
  exact (((h.below.setCell (p := ⟨g4, 0, none⟩) ho _).setCell (p := ⟨g4, 1, none⟩) ho _).setCell (p := ⟨g4, 2, none⟩) ho _).setCell (p := ⟨g4, 3, none⟩) ho _
theorem XSt.call (h : XSt W w g2 g4 g8 g9 Aw ws cw Aa ats ca en k n v z wk vb zb) (hb : Below w.heap.size w w') : XSt W w' g2 g4 g8 g9 Aw ws cw Aa ats ca en k n v z wk vb zb :=
  ⟨h.t.call hb, (hb.block g8 (blk_lt h.ev)).trans h.ev, (hb.block g9 (blk_lt h.kd)).trans h.kd, h.old, h.n2, h.n4, h.n9⟩
theorem XSt.drewN (h : XSt W w g2 g4 g8 g9 Aw ws cw Aa ats ca en k n v z wk vb zb) (m : Nat) : XSt W (w.drewN m) g2 g4 g8 g9 Aw ws cw Aa ats ca en k n v z wk vb zb :=
  h.call (pw_below_drewN (Below.refl _ w) m)
theorem XSt.cells (h : XSt W w g2 g4 g8 g9 Aw ws cw Aa ats ca en k n v z wk vb zb) : (w.cell? ⟨g8, 0, none⟩ = some (.int .i64 k) ∧ w.cell? ⟨g8, 1, none⟩ = some (.int .i64 n) ∧ w.cell? ⟨g8, 2, none⟩ = some (.int .i64 v) ∧ w.cell? ⟨g8, 3, none⟩ = some (.int .i64 z)) ∧ w.cell? ⟨g9, 0, none⟩ = some (.string wk) ∧ w.cell? ⟨g9, 1, none⟩ = some (.bool vb) ∧ w.cell? ⟨g9, 2, none⟩ = some (.bool zb) :=
  ⟨⟨(blk_cell h.ev 0).trans rfl, (blk_cell h.ev 1).trans rfl, (blk_cell h.ev 2).trans rfl, (blk_cell h.ev 3).trans rfl⟩, (blk_cell h.kd 0).trans rfl, (blk_cell h.kd 1).trans rfl, (blk_cell h.kd 2).trans rfl⟩
theorem TSt.set (h : TSt W w g2 g4 Aw ws cw Aa ats ca en) (ho : W.heap.size ≤ g8) (h2 : g8 ≠ g2) (h4 : g8 ≠ g4) (hw : Kd.C Kd.string W Aw ws.length ws) (ha : Kd.C (Kd.int .i64) W Aa ats.length ats) (i : Nat) (x : Value) : TSt W (w.setCell ⟨g8, i, none⟩ x) g2 g4 Aw ws cw Aa ats ca en := by
  have hb := h.below.setCell (p := ⟨g8, i, none⟩) ho x
  exact ⟨⟨(Below.heap_setCell w ⟨g8, i, none⟩ x g2 (Ne.symm h2)).trans h.line.blk, Kd.C_below hw hb, Kd.C_below ha hb⟩, (Below.heap_setCell w ⟨g8, i, none⟩ x g4 (Ne.symm h4)).trans h.res, hb, h.old, h.old2, h.ne⟩
theorem XSt.set1 (h : XSt W w g2 g4 g8 g9 Aw ws cw Aa ats ca en k n v z wk vb zb) (hw : Kd.C Kd.string W Aw ws.length ws) (ha : Kd.C (Kd.int .i64) W Aa ats.length ats) (x : Int) : XSt W (w.setCell ⟨g8, 1, none⟩ (.int .i64 x)) g2 g4 g8 g9 Aw ws cw Aa ats ca en k x v z wk vb zb :=
  ⟨h.t.set h.old h.n2 h.n4 hw ha 1 _, by have := blk_set h.ev 1 (.int .i64 x); simpa using this, (Below.heap_setCell w ⟨g8, 1, none⟩ _ g9 (Ne.symm h.n9)).trans h.kd, h.old, h.n2, h.n4, h.n9⟩
theorem XSt.set2 (h : XSt W w g2 g4 g8 g9 Aw ws cw Aa ats ca en k n v z wk vb zb) (hw : Kd.C Kd.string W Aw ws.length ws) (ha : Kd.C (Kd.int .i64) W Aa ats.length ats) (x : Int) : XSt W (w.setCell ⟨g8, 2, none⟩ (.int .i64 x)) g2 g4 g8 g9 Aw ws cw Aa ats ca en k n x z wk vb zb :=
  ⟨h.t.set h.old h.n2 h.n4 hw ha 2 _, by have := blk_set h.ev 2 (.int .i64 x); simpa using this, (Below.heap_setCell w ⟨g8, 2, none⟩ _ g9 (Ne.symm h.n9)).trans h.kd, h.old, h.n2, h.n4, h.n9⟩
theorem XSt.set3 (h : XSt W w g2 g4 g8 g9 Aw ws cw Aa ats ca en k n v z wk vb zb) (hw : Kd.C Kd.string W Aw ws.length ws) (ha : Kd.C (Kd.int .i64) W Aa ats.length ats) (x : Int) : XSt W (w.setCell ⟨g8, 3, none⟩ (.int .i64 x)) g2 g4 g8 g9 Aw ws cw Aa ats ca en k n v x wk vb zb :=
  ⟨h.t.set h.old h.n2 h.n4 hw ha 3 _, by have := blk_set h.ev 3 (.int .i64 x); simpa using this, (Below.heap_setCell w ⟨g8, 3, none⟩ _ g9 (Ne.symm h.n9)).trans h.kd, h.old, h.n2, h.n4, h.n9⟩
set_option maxHeartbeats 2000000 in
set_option maxRecDepth 100000 in
theorem event_any (Aw : Option Addr) (ws : List ByteArray) (cw : Nat) (Aa : Option Addr) (ats : List Int) (ca : Nat) (en : Int) (Ae : Option Addr) (evs : List S34) (ce : Nat) (W : World) (hT : KTab W)
    (hw : Kd.C Kd.string W Aw ws.length ws) (hcw : ws.length ≤ cw) (ha : Kd.C (Kd.int .i64) W Aa ats.length ats) (hca : ats.length ≤ ca) (he : Kd.C k34 W Ae evs.length evs) (hce : evs.length ≤ ce)
    (h0 : 0 < ws.length) (hl : ws.length = ats.length) (hs : ∀ s ∈ ws, s.size ≤ 1000000) (he60 : evs.length ≤ 60) (hwl : ws.length ≤ 1000000) (r : S34) (r1 r2 : Int) (hr : tev ws ats en evs = (r, r1, r2)) :
    Calls Tryd.prog 61 #[.agg #[.slice Aw ws.length cw, .slice Aa ats.length ca, .int .i64 en], .slice Ae evs.length ce] W fun x w' => x = .returned (.tuple #[.agg #[.int .i64 r.f0, .int .i64 r.f1, .int .i64 r.f2, .int .i64 r.f3], .int .i64 r1, .int .i64 r2]) ∧ Below W.heap.size W w' := by
  have HW := Lib.hid hw
  have HA := Lib.hid ha
  have HE := Lib.hid he
  have KT := Lib.hid hT
  have HR := Lib.hid hr
  have HL := Lib.hid hl
  have HS := Lib.hid hs
  obtain ⟨kk, hkk⟩ : ∃ kk, kk = kindW (rdOf ByteArray.empty ws 0) := ⟨_, rfl⟩
  have HKK := Lib.hid hkk
  have HKI := kindW_in (rdOf ByteArray.empty ws 0)
  rw [← hkk] at HKI
  have hIX : Hid (∀ w g, LineAt w g Aw ws cw Aa ats ca en → KTab w → Calls Tryd.prog 87 #[.slice (some ⟨0, 0, none⟩) 10 10, .func (.func 88) #[] #[.pointer (some ⟨g, 0, none⟩)]] w fun e w' => e = .returned (.int .i64 kk) ∧ Below w.heap.size w w') := Lib.hid (by
    intro w g hL hT
    rw [hkk]
    exact index_kind g Aw ws cw Aa ats ca en w hL h0 hT)
  clear hw ha he hT hr hl hs hkk
  go_enter Tryd.func61, Tryd.ntmps61
  go_upto_region 2 with (first
    | ((with_reducible refine gate_dst (N := 2) rfl ?_); refine box_event ?hg (N := 2) ?hd (cs := #[.slice Aw ws.length cw, .slice Aa ats.length ca, .int .i64 en]) (t := 81) ?hr ?_; (case hd => rfl); (case hg => rfl); (case hr => first | (go_simp; done) | (go_simp; rfl)); intro g2 hg2 w2 hbox hb; have HX2 := Lib.hid hbox; have HB2 := Lib.hid hb; have HG2 := Lib.hid hg2; clear hbox hb hg2)
    | ((with_reducible refine gate_dst (N := 4) rfl ?_); refine box_event ?hg (N := 4) ?hd (cs := #[.int .i64 0, .int .i64 0, .int .i64 0, .int .i64 0]) (t := 34) ?hr ?_; (case hd => rfl); (case hg => rfl); (case hr => first | (go_simp; done) | (go_simp; rfl)); intro g4 hg4 w4 hbox hb; have HTS : Hid (TSt W w4 g2 g4 Aw ws cw Aa ats ca en) := Lib.hid ⟨⟨(hb.block g2 (blk_lt HX2.out)).trans HX2.out, Kd.C_below HW.out (HB2.out.trans (hb.mono HB2.out.size)), Kd.C_below HA.out (HB2.out.trans (hb.mono HB2.out.size))⟩, hbox, HB2.out.trans (hb.mono HB2.out.size), by rw [hg4]; exact HB2.out.size, by rw [HG2.out]; exact Nat.le_refl _, by have := blk_lt HX2.out; omega⟩; clear hbox hb hg4 HX2 HB2 HG2)
    | (go_at_call 87; refine (hIX.out _ g2 HTS.out.line (KT.out.below HTS.out.below)).mono ?_; rintro x w5 ⟨rfl, hb5⟩; have HT5 := Lib.hid (HTS.out.call hb5); clear hb5))
  by_cases h60 : evs.length = 60
  · have e1 : ((evs.length : Int) == 60) = true := by simp; omega
    have hv : r = zeroE ∧ r1 = rd ats 0 ∧ r2 = 5 := by
      have := HR.out
      unfold tev at this
      rw [if_pos h60] at this
      simp only [Prod.mk.injEq] at this
      exact ⟨this.1.symm, this.2.1.symm, this.2.2.symm⟩
    obtain ⟨rfl, rfl, rfl⟩ := hv
    obtain ⟨x0, x1, x2⟩ := HT5.out.line.cells
    obtain ⟨⟨y0, y1, y2, y3⟩, f0, f1, f2, f3⟩ := HT5.out.zero
    obtain ⟨ad, rfl, xa⟩ := Kd.at_int HA.out (0 : Int) (by decide) (by rw [← HL.out]; omega)
    rw [show (0 : Int).toNat = 0 from rfl] at xa
    have xa0 : W.cell? ad = some (.int .i64 (rd ats 0)) := by simpa [go_sem] using xa
    have hab := World.block_lt_of_cell? _ _ xa0
    replace xa0 := pw_cell_below HT5.out.below xa0
    obtain ⟨ab, ao, al⟩ := ad
    have hn1 : ab ≠ g4 := by have := HT5.out.old; dsimp only at hab; omega
    have hn2 : g2 ≠ g4 := HT5.out.ne
    have hn3 : g4 ≠ ab := Ne.symm hn1
    have hn4 : g4 ≠ g2 := Ne.symm hn2
    have ha1 : 0 < ats.length := by have := HL.out; omega
    have ha0 : (0 : Int) < ats.length := by omega
    go_upto_region 3 with (fail)
    go_region
    go_wp2
    obtain ⟨Wf, hWf⟩ : ∃ Wf, Wf = (((w5.setCell ⟨g4, 0, none⟩ (.int .i64 0)).setCell ⟨g4, 1, none⟩ (.int .i64 0)).setCell ⟨g4, 2, none⟩ (.int .i64 0)).setCell ⟨g4, 3, none⟩ (.int .i64 0) := ⟨_, rfl⟩
    have hd := HT5.out.done (.int .i64 0) (.int .i64 0) (.int .i64 0) (.int .i64 0)
    rw [← hWf] at hd ⊢
    obtain ⟨⟨z0, z1, z2, z3⟩, hB⟩ := hd
    have z0' : Wf.drew.cell? ⟨g4, 0, none⟩ = some (.int .i64 0) := z0
    have z1' : Wf.drew.cell? ⟨g4, 1, none⟩ = some (.int .i64 0) := z1
    have z2' : Wf.drew.cell? ⟨g4, 2, none⟩ = some (.int .i64 0) := z2
    have z3' : Wf.drew.cell? ⟨g4, 3, none⟩ = some (.int .i64 0) := z3
    clear hWf z0 z1 z2 z3
    refine bodyPost_ret (v := .tuple #[.agg #[.int .i64 0, .int .i64 0, .int .i64 0, .int .i64 0], .int .i64 (rd ats 0), .int .i64 5]) (by simp [results, Tryd.results61, go_sem, z0', z1', z2', z3']) rfl ⟨rfl, hB.drew⟩
  have e1 : ((evs.length : Int) == 60) = false := by simp; omega
  rcases HKI with hkn | ⟨hk0, hk1⟩
  · subst hkn
    have hv : r = zeroE ∧ r1 = rd ats 0 ∧ r2 = 2 := by
      have := HR.out
      unfold tev at this
      rw [if_neg h60, if_pos (by rw [← HKK.out]; decide)] at this
      simp only [Prod.mk.injEq] at this
      exact ⟨this.1.symm, this.2.1.symm, this.2.2.symm⟩
    obtain ⟨rfl, rfl, rfl⟩ := hv
    obtain ⟨x0, x1, x2⟩ := HT5.out.line.cells
    obtain ⟨⟨y0, y1, y2, y3⟩, f0, f1, f2, f3⟩ := HT5.out.zero
    obtain ⟨ad, rfl, xa⟩ := Kd.at_int HA.out (0 : Int) (by decide) (by rw [← HL.out]; omega)
    rw [show (0 : Int).toNat = 0 from rfl] at xa
    have xa0 : W.cell? ad = some (.int .i64 (rd ats 0)) := by simpa [go_sem] using xa
    have hab := World.block_lt_of_cell? _ _ xa0
    replace xa0 := pw_cell_below HT5.out.below xa0
    obtain ⟨ab, ao, al⟩ := ad
    have hn1 : ab ≠ g4 := by have := HT5.out.old; dsimp only at hab; omega
    have hn2 : g2 ≠ g4 := HT5.out.ne
    have hn3 : g4 ≠ ab := Ne.symm hn1
    have hn4 : g4 ≠ g2 := Ne.symm hn2
    have ha1 : 0 < ats.length := by have := HL.out; omega
    have ha0 : (0 : Int) < ats.length := by omega
    go_upto_region 5 with (fail)
    go_region
    go_wp2
    obtain ⟨Wf, hWf⟩ : ∃ Wf, Wf = (((w5.setCell ⟨g4, 0, none⟩ (.int .i64 0)).setCell ⟨g4, 1, none⟩ (.int .i64 0)).setCell ⟨g4, 2, none⟩ (.int .i64 0)).setCell ⟨g4, 3, none⟩ (.int .i64 0) := ⟨_, rfl⟩
    have hd := HT5.out.done (.int .i64 0) (.int .i64 0) (.int .i64 0) (.int .i64 0)
    rw [← hWf] at hd ⊢
    obtain ⟨⟨z0, z1, z2, z3⟩, hB⟩ := hd
    have z0' : Wf.drew.cell? ⟨g4, 0, none⟩ = some (.int .i64 0) := z0
    have z1' : Wf.drew.cell? ⟨g4, 1, none⟩ = some (.int .i64 0) := z1
    have z2' : Wf.drew.cell? ⟨g4, 2, none⟩ = some (.int .i64 0) := z2
    have z3' : Wf.drew.cell? ⟨g4, 3, none⟩ = some (.int .i64 0) := z3
    clear hWf z0 z1 z2 z3
    refine bodyPost_ret (v := .tuple #[.agg #[.int .i64 0, .int .i64 0, .int .i64 0, .int .i64 0], .int .i64 (rd ats 0), .int .i64 2]) (by simp [results, Tryd.results61, go_sem, z0', z1', z2', z3']) rfl ⟨rfl, hB.drew⟩
  obtain ⟨k, rfl⟩ := Int.eq_ofNat_of_zero_le hk0
  have hk10 : k < 10 := by omega
  have ek : decide ((k : Int) < 0) = false := decide_eq_false (by omega)
  obtain ⟨k0, k1, k2⟩ := (KT.out.below HT5.out.below) k hk10
  obtain ⟨wk, hwk⟩ : ∃ wk, wk = wordK k := ⟨_, rfl⟩
  obtain ⟨vb, hvb⟩ : ∃ vb, vb = varB (k : Int) := ⟨_, rfl⟩
  obtain ⟨zb, hzb⟩ : ∃ zb, zb = valB (k : Int) := ⟨_, rfl⟩
  rw [← hwk] at k0
  rw [← hvb] at k1
  rw [← hzb] at k2
  have hkk0 : ¬ (k : Int) < 0 := by omega
  have HV : Hid (vb = varB (kindW (rdOf ByteArray.empty ws 0))) := Lib.hid (by rw [← HKK.out]; exact hvb)
  have HZ : Hid (zb = valB (kindW (rdOf ByteArray.empty ws 0))) := Lib.hid (by rw [← HKK.out]; exact hzb)
  obtain ⟨⟨nm, na, nb⟩, hN⟩ : ∃ n, tnum ws ats en 1 0 9999 = n := ⟨_, rfl⟩
  have HTV : Hid (tev ws ats en evs = if nb ≠ 0 then (zeroE, na, nb) else if seventhB evs nm = true then (zeroE, na, 5) else
      if (if vb then tnum ws ats en 2 0 7 else (0, 0, 0)).2.2 ≠ 0 then (zeroE, (if vb then tnum ws ats en 2 0 7 else (0, 0, 0)).2.1, (if vb then tnum ws ats en 2 0 7 else (0, 0, 0)).2.2) else
      if (if zb then tnum ws ats en (if vb then 3 else 2) (-2147483648) 2147483647 else (0, 0, 0)).2.2 ≠ 0 then (zeroE, (if zb then tnum ws ats en (if vb then 3 else 2) (-2147483648) 2147483647 else (0, 0, 0)).2.1, (if zb then tnum ws ats en (if vb then 3 else 2) (-2147483648) 2147483647 else (0, 0, 0)).2.2) else
      if (1 + (if vb then 1 else 0) + (if zb then 1 else 0)) + 1 < (ws.length : Int) then (zeroE, rd ats ((1 + (if vb then 1 else 0) + (if zb then 1 else 0)) + 1), 2) else
      (⟨(k : Int), nm, (if vb then tnum ws ats en 2 0 7 else (0, 0, 0)).1, (if zb then tnum ws ats en (if vb then 3 else 2) (-2147483648) 2147483647 else (0, 0, 0)).1⟩, 0, 0)) := Lib.hid (by
    unfold tev
    rw [if_neg h60, if_neg (by rw [← HKK.out]; exact hkk0)]
    dsimp only
    rw [hN, ← HV.out, ← HZ.out, ← HKK.out])
  have HNM := Lib.hid hN
  clear hwk hvb hzb hN HV HZ HKK
  go_upto_region 7 with (first
    | ((with_reducible refine gate_dst (N := 8) rfl ?_); refine box_event ?hg (N := 8) ?hd (cs := #[.int .i64 0, .int .i64 0, .int .i64 0, .int .i64 0]) (t := 34) ?hr ?_; (case hd => rfl); (case hg => rfl); (case hr => first | (go_simp; done) | (go_simp; rfl)); intro g8 hg8 w6 hbox hb; have HX8 := Lib.hid hbox; have HB6 := Lib.hid hb; have HG8 := Lib.hid hg8; have y0 : w6.cell? ⟨g8, 0, none⟩ = some (.int .i64 0) := (blk_cell hbox 0).trans rfl; have y1 : w6.cell? ⟨g8, 1, none⟩ = some (.int .i64 0) := (blk_cell hbox 1).trans rfl; have y2 : w6.cell? ⟨g8, 2, none⟩ = some (.int .i64 0) := (blk_cell hbox 2).trans rfl; have y3 : w6.cell? ⟨g8, 3, none⟩ = some (.int .i64 0) := (blk_cell hbox 3).trans rfl; have u0 := blk_frozen hbox 0; have u1 := blk_frozen hbox 1; have u2 := blk_frozen hbox 2; have u3 := blk_frozen hbox 3; clear hbox hb hg8))
  obtain ⟨W7, hW7⟩ : ∃ W7, W7 = (((w6.setCell ⟨g8, 0, none⟩ (.int .i64 (k : Int))).setCell ⟨g8, 1, none⟩ (.int .i64 0)).setCell ⟨g8, 2, none⟩ (.int .i64 0)).setCell ⟨g8, 3, none⟩ (.int .i64 0) := ⟨_, rfl⟩
  have HX7 : Hid (W7.heap[g8]? = some (.cells #[.int .i64 (k : Int), .int .i64 0, .int .i64 0, .int .i64 0] 34 (0, 0))) := Lib.hid (by
    rw [hW7]
    have := blk_set (blk_set (blk_set (blk_set HX8.out 0 (.int .i64 (k : Int))) 1 (.int .i64 0)) 2 (.int .i64 0)) 3 (.int .i64 0)
    simpa using this)
  have HB7 : Hid (Below w5.heap.size w5 W7) := Lib.hid (by
    have hle : w5.heap.size ≤ g8 := by rw [HG8.out]; exact Nat.le_refl _
    rw [hW7]
    exact (((HB6.out.setCell (p := ⟨g8, 0, none⟩) hle _).setCell (p := ⟨g8, 1, none⟩) hle _).setCell (p := ⟨g8, 2, none⟩) hle _).setCell (p := ⟨g8, 3, none⟩) hle _)
  rw [← hW7]
  clear hW7 HX8 HB6 y0 y1 y2 y3 u0 u1 u2 u3
  replace k0 := pw_cell_below HB7.out k0
  replace k1 := pw_cell_below HB7.out k1
  replace k2 := pw_cell_below HB7.out k2
  have q0 : (0 : Int) ≤ (k : Int) := by omega
  have q1 : (k : Int) < 10 := by omega
  go_upto_region 8 with (first
    | ((with_reducible refine gate_dst (N := 9) rfl ?_); refine box_event ?hg (N := 9) ?hd (cs := #[.string ⟨#[]⟩, .bool false, .bool false]) (t := 106) ?hr ?_; (case hd => rfl); (case hg => rfl); (case hr => first | (go_simp; done) | (go_simp; rfl)); intro g9 hg9 w8 hbox hb; have HX9 := Lib.hid hbox; have HB8 := Lib.hid hb; have HG9 := Lib.hid hg9; have y0 : w8.cell? ⟨g9, 0, none⟩ = some (.string ⟨#[]⟩) := (blk_cell hbox 0).trans rfl; have y1 : w8.cell? ⟨g9, 1, none⟩ = some (.bool false) := (blk_cell hbox 1).trans rfl; have y2 : w8.cell? ⟨g9, 2, none⟩ = some (.bool false) := (blk_cell hbox 2).trans rfl; have u0 := blk_frozen hbox 0; have u1 := blk_frozen hbox 1; have u2 := blk_frozen hbox 2; clear hbox hb hg9))
  obtain ⟨W9, hW9⟩ : ∃ W9, W9 = ((w8.setCell ⟨g9, 0, none⟩ (.string wk)).setCell ⟨g9, 1, none⟩ (.bool vb)).setCell ⟨g9, 2, none⟩ (.bool zb) := ⟨_, rfl⟩
  have HX : Hid (XSt W W9 g2 g4 g8 g9 Aw ws cw Aa ats ca en (k : Int) 0 0 0 wk vb zb) := Lib.hid (by
    have hle : W7.heap.size ≤ g9 := by rw [HG9.out]; exact Nat.le_refl _
    have hb9 : Below W7.heap.size W7 W9 := by
      rw [hW9]
      exact ((HB8.out.setCell (p := ⟨g9, 0, none⟩) hle _).setCell (p := ⟨g9, 1, none⟩) hle _).setCell (p := ⟨g9, 2, none⟩) hle _
    have h5 := HT5.out
    have hg8 := HG8.out
    have hl8 := blk_lt HX7.out
    have hl2 := blk_lt h5.line.blk
    have hl4 := blk_lt h5.res
    refine ⟨(h5.call HB7.out).call hb9, (hb9.block g8 hl8).trans HX7.out, ?_, by have := h5.below.size; omega, by omega, by omega, by omega⟩
    rw [hW9]
    have := blk_set (blk_set (blk_set HX9.out 0 (.string wk)) 1 (.bool vb)) 2 (.bool zb)
    simpa using this)
  rw [← hW9]
  clear hW9 HX9 HB8 HG9 y0 y1 y2 u0 u1 u2 k0 k1 k2 HX7 HB7 HG8 HT5 q0 q1 h60 hkk0 ek hk0 hk1 e1
  have hNUM : Hid (∀ w i lo hi a b c, 0 ≤ i → TSt W w g2 g4 Aw ws cw Aa ats ca en → tnum ws ats en i lo hi = (a, b, c) → Calls Tryd.prog 89 #[.agg #[.slice Aw ws.length cw, .slice Aa ats.length ca, .int .i64 en], .int .i64 i, .int .i64 lo, .int .i64 hi] w fun x w' => x = .returned (.tuple #[.int .i64 a, .int .i64 b, .int .i64 c]) ∧ Below w.heap.size w w') := Lib.hid (by
    intro w i lo hi a b c h0 hT hn
    exact text_line_number.calls Aw cw ws Aa ca ats en i lo hi a b c w hT.line.words hcw hT.line.ats hca (by rw [tnum_eq ws ats en i lo hi HL.out HS.out h0, hn]))
  obtain ⟨x0, x1, x2⟩ := HX.out.t.line.cells
  go_upto_if 48 with (first
    | (go_at_call 89; refine (hNUM.out _ 1 0 9999 nm na nb (by decide) HX.out.t HNM.out).mono ?_; rintro x w10 ⟨rfl, hb10⟩; have HX10 := Lib.hid (HX.out.call hb10); clear hb10))
  clear x0 x1 x2 HX
  by_cases hnb : nb ≠ 0
  · have e2 : (nb != 0) = true := by simpa using hnb
    have hv : r = zeroE ∧ r1 = na ∧ r2 = nb := by
      have := HR.out
      rw [HTV.out, if_pos hnb] at this
      simp only [Prod.mk.injEq] at this
      exact ⟨this.1.symm, this.2.1.symm, this.2.2.symm⟩
    obtain ⟨rfl, rfl, rfl⟩ := hv
    obtain ⟨⟨y0, y1, y2, y3⟩, f0, f1, f2, f3⟩ := HX10.out.t.zero
    go_wp2
    obtain ⟨Wf, hWf⟩ : ∃ Wf, Wf = (((w10.setCell ⟨g4, 0, none⟩ (.int .i64 0)).setCell ⟨g4, 1, none⟩ (.int .i64 0)).setCell ⟨g4, 2, none⟩ (.int .i64 0)).setCell ⟨g4, 3, none⟩ (.int .i64 0) := ⟨_, rfl⟩
    have hd := HX10.out.t.done (.int .i64 0) (.int .i64 0) (.int .i64 0) (.int .i64 0)
    rw [← hWf] at hd ⊢
    obtain ⟨⟨z0, z1, z2, z3⟩, hB⟩ := hd
    have z0' : Wf.cell? ⟨g4, 0, none⟩ = some (.int .i64 0) := z0
    have z1' : Wf.cell? ⟨g4, 1, none⟩ = some (.int .i64 0) := z1
    have z2' : Wf.cell? ⟨g4, 2, none⟩ = some (.int .i64 0) := z2
    have z3' : Wf.cell? ⟨g4, 3, none⟩ = some (.int .i64 0) := z3
    clear hWf z0 z1 z2 z3
    refine bodyPost_ret (v := .tuple #[.agg #[.int .i64 0, .int .i64 0, .int .i64 0, .int .i64 0], .int .i64 r1, .int .i64 r2]) (by simp [results, Tryd.results61, go_sem, z0', z1', z2', z3']) rfl ⟨rfl, hB⟩
  have hnb0 : nb = 0 := by omega
  subst hnb0
  replace HTV := Lib.hid (HTV.out.trans (if_neg hnb))
  clear hnb
  obtain ⟨⟨p0, p1, p2, p3⟩, p4, p5, p6⟩ := HX10.out.cells
  have u1 := blk_frozen HX10.out.ev 1
  have hnl := names_len evs
  have hNMS : Hid (∀ w', TSt W w' g2 g4 Aw ws cw Aa ats ca en → Calls Tryd.prog 67 #[.slice Ae evs.length ce] w' fun e w'' => ∃ v0 : Value, e = .returned v0 ∧ Kd.R (Kd.int .i64) 3 w'' w'.heap.size (fun _ => True) v0 (namesF evs) ∧ Below w'.heap.size w' w'') := Lib.hid (fun w' hT => text_names.calls (evs.length + evs.length + 2) Ae ce evs (namesF evs) w' (Kd.C_below HE.out hT.below) hce (names_fun evs (by omega)))
  go_upto_region 13 with (fail)
  obtain ⟨W11, hW11⟩ : ∃ W11, W11 = w10.setCell ⟨g8, 1, none⟩ (.int .i64 nm) := ⟨_, rfl⟩
  have HX11 : Hid (XSt W W11 g2 g4 g8 g9 Aw ws cw Aa ats ca en (k : Int) nm 0 0 wk vb zb) := Lib.hid (by rw [hW11]; exact HX10.out.set1 HW.out HA.out nm)
  rw [← hW11]
  clear hW11 p0 p1 p2 p3 p4 p5 p6 u1 HX10
  go_upto_region 14 with (first
    | (go_at_call 67; refine (hNMS.out _ HX11.out.t).mono ?_; rintro x w12 ⟨v12, rfl, hR12, hb12⟩; obtain ⟨A12, c12, rfl, hc12, hC12⟩ := Kd.R_reads hR12; have HX12 := Lib.hid (HX11.out.call hb12); have HC12 := Lib.hid hC12; have HP12 := Lib.hid hc12; clear hb12 hR12 hC12 hc12))
  clear HX11
  obtain ⟨nms, hnms⟩ : ∃ nms, nms = namesF evs := ⟨_, rfl⟩
  rw [← hnms] at HC12 HP12 hnl ⊢
  have hsv : seventhB evs nm = (decide (nms.length = 6) && !nms.contains nm) := by rw [hnms]; rfl
  have HSV := Lib.hid hsv
  have hCO : Hid (Calls Tryd.prog 90 #[.slice A12 nms.length c12, .int .i64 nm] w12 fun e w' => e = .returned (.bool (nms.contains nm)) ∧ Drawn0 w12 w') := Lib.hid (slices_Contains_int_int.calls (nms.length + 1) A12 c12 nms nm (nms.contains nm) w12 HC12.out HP12.out (contains_run nms nm (by omega)))
  clear hsv hnms HC12 HP12
  go_cut [64] (fun v64 wx => v64 = .bool (seventhB evs nm) ∧ Hid (XSt W wx g2 g4 g8 g9 Aw ws cw Aa ats ca en (k : Int) nm 0 0 wk vb zb))
  case first =>
    by_cases h6 : nms.length = 6
    · have e6 : ((nms.length : Int) == 6) = true := by simp; omega
      have H6 := Lib.hid h6
      clear h6
      go_wp2_with (first
        | (go_at_call 90; refine hCO.out.mono ?_; rintro x w13 ⟨rfl, ⟨m13, hm13⟩⟩; have HX13 : Hid (XSt W w13 g2 g4 g8 g9 Aw ws cw Aa ats ca en (k : Int) nm 0 0 wk vb zb) := Lib.hid (by rw [hm13]; exact HX12.out.drewN m13); clear hm13))
      go_meet
      exact ⟨by rw [HSV.out, decide_eq_true H6.out]; simp, HX13⟩
    · have e6 : ((nms.length : Int) == 6) = false := by simp; omega
      have H6 := Lib.hid h6
      clear h6
      go_wp2_with (fail)
      go_meet
      exact ⟨by rw [HSV.out, decide_eq_false H6.out]; simp, HX12⟩
  case rest =>
  obtain ⟨hv64, HX14⟩ := hcut
  subst hv64
  clear HX12 hCO HSV
  obtain ⟨sv, hsv⟩ : ∃ sv, sv = seventhB evs nm := ⟨_, rfl⟩
  rw [← hsv] at HTV ⊢
  clear hsv
  go_upto_if 64 with (fail)
  cases sv with
  | true =>
    have hv : r = zeroE ∧ r1 = na ∧ r2 = 5 := by
      have := HR.out
      rw [HTV.out, if_pos rfl] at this
      simp only [Prod.mk.injEq] at this
      exact ⟨this.1.symm, this.2.1.symm, this.2.2.symm⟩
    obtain ⟨rfl, rfl, rfl⟩ := hv
    obtain ⟨⟨y0, y1, y2, y3⟩, f0, f1, f2, f3⟩ := HX14.out.t.zero
    go_wp2
    obtain ⟨Wf, hWf⟩ : ∃ Wf, Wf = (((wc.setCell ⟨g4, 0, none⟩ (.int .i64 0)).setCell ⟨g4, 1, none⟩ (.int .i64 0)).setCell ⟨g4, 2, none⟩ (.int .i64 0)).setCell ⟨g4, 3, none⟩ (.int .i64 0) := ⟨_, rfl⟩
    have hd := HX14.out.t.done (.int .i64 0) (.int .i64 0) (.int .i64 0) (.int .i64 0)
    rw [← hWf] at hd ⊢
    obtain ⟨⟨z0, z1, z2, z3⟩, hB⟩ := hd
    have z0' : Wf.cell? ⟨g4, 0, none⟩ = some (.int .i64 0) := z0
    have z1' : Wf.cell? ⟨g4, 1, none⟩ = some (.int .i64 0) := z1
    have z2' : Wf.cell? ⟨g4, 2, none⟩ = some (.int .i64 0) := z2
    have z3' : Wf.cell? ⟨g4, 3, none⟩ = some (.int .i64 0) := z3
    clear hWf z0 z1 z2 z3
    refine bodyPost_ret (v := .tuple #[.agg #[.int .i64 0, .int .i64 0, .int .i64 0, .int .i64 0], .int .i64 r1, .int .i64 5]) (by simp [results, Tryd.results61, go_sem, z0', z1', z2', z3']) rfl ⟨rfl, hB⟩
  | false =>
  replace HTV := Lib.hid (HTV.out.trans (if_neg (by simp)))
  obtain ⟨⟨p0, p1, p2, p3⟩, p4, p5, p6⟩ := HX14.out.cells
  go_upto_if 68 with (fail)
  clear p0 p1 p2 p3 p4 p5 p6
  -- the variable
  obtain ⟨⟨v, va, vvb⟩, hv⟩ : ∃ n, (if vb then tnum ws ats en 2 0 7 else (0, 0, 0)) = n := ⟨_, rfl⟩
  rw [hv] at HTV
  have HVN := Lib.hid hv
  clear hv
  dsimp only at HTV
  go_cut [10] (fun v10 wx => vvb = 0 ∧ v10 = .int .i64 (if vb then 2 else 1) ∧ Hid (XSt W wx g2 g4 g8 g9 Aw ws cw Aa ats ca en (k : Int) nm v 0 wk vb zb))
  case first =>
    cases vb with
    | false =>
      have hq := (if_neg (by simp)).symm.trans HVN.out
      simp only [Prod.mk.injEq] at hq
      obtain ⟨q1, q2, q3⟩ := hq
      subst q1; subst q2; subst q3
      go_wp2_with (fail)
      go_meet
      exact ⟨trivial, rfl, HX14⟩
    | true =>
      have hq := (if_pos rfl).symm.trans HVN.out
      have HQ := Lib.hid hq
      clear hq
      obtain ⟨x0, x1, x2⟩ := HX14.out.t.line.cells
      go_upto_if 80 with (first
        | (go_at_call 89; refine (hNUM.out _ 2 0 7 v va vvb (by decide) HX14.out.t HQ.out).mono ?_; rintro x w15 ⟨rfl, hb15⟩; have HX15 := Lib.hid (HX14.out.call hb15); clear hb15; obtain ⟨⟨p0, p1, p2, p3⟩, p4, p5, p6⟩ := HX15.out.cells; have u2 := blk_frozen HX15.out.ev 2))
      obtain ⟨W16, hW16⟩ : ∃ W16, W16 = w15.setCell ⟨g8, 2, none⟩ (.int .i64 v) := ⟨_, rfl⟩
      have HX16 : Hid (XSt W W16 g2 g4 g8 g9 Aw ws cw Aa ats ca en (k : Int) nm v 0 wk true zb) := Lib.hid (by rw [hW16]; exact HX15.out.set2 HW.out HA.out v)
      rw [← hW16]
      clear hW16 p0 p1 p2 p3 p4 p5 p6 u2 x0 x1 x2 HX15
      by_cases hvb : vvb ≠ 0
      · have e3 : (vvb != 0) = true := by simpa using hvb
        have hv : r = zeroE ∧ r1 = va ∧ r2 = vvb := by
          have := HR.out
          rw [HTV.out, if_pos hvb] at this
          simp only [Prod.mk.injEq] at this
          exact ⟨this.1.symm, this.2.1.symm, this.2.2.symm⟩
        obtain ⟨rfl, rfl, rfl⟩ := hv
        obtain ⟨⟨y0, y1, y2, y3⟩, f0, f1, f2, f3⟩ := HX16.out.t.zero
        go_wp2
        obtain ⟨Wf, hWf⟩ : ∃ Wf, Wf = (((W16.setCell ⟨g4, 0, none⟩ (.int .i64 0)).setCell ⟨g4, 1, none⟩ (.int .i64 0)).setCell ⟨g4, 2, none⟩ (.int .i64 0)).setCell ⟨g4, 3, none⟩ (.int .i64 0) := ⟨_, rfl⟩
        have hd := HX16.out.t.done (.int .i64 0) (.int .i64 0) (.int .i64 0) (.int .i64 0)
        rw [← hWf] at hd ⊢
        obtain ⟨⟨z0, z1, z2, z3⟩, hB⟩ := hd
        have z0' : Wf.cell? ⟨g4, 0, none⟩ = some (.int .i64 0) := z0
        have z1' : Wf.cell? ⟨g4, 1, none⟩ = some (.int .i64 0) := z1
        have z2' : Wf.cell? ⟨g4, 2, none⟩ = some (.int .i64 0) := z2
        have z3' : Wf.cell? ⟨g4, 3, none⟩ = some (.int .i64 0) := z3
        clear hWf z0 z1 z2 z3
        refine bodyPost_ret (v := .tuple #[.agg #[.int .i64 0, .int .i64 0, .int .i64 0, .int .i64 0], .int .i64 r1, .int .i64 r2]) (by simp [results, Tryd.results61, go_sem, z0', z1', z2', z3']) rfl ⟨rfl, hB⟩
      · have hvb0 : vvb = 0 := by omega
        subst hvb0
        go_wp2_with (fail)
        go_meet
        exact ⟨trivial, rfl, HX16⟩
  case rest =>
  obtain ⟨hvvb, hv10, HX17⟩ := hcut
  subst hv10
  subst hvvb
  clear HX14 HVN
  obtain ⟨i1, hi1⟩ : ∃ i1 : Int, i1 = if vb then 2 else 1 := ⟨_, rfl⟩
  have hi1a : 1 ≤ i1 := by rw [hi1]; split <;> omega
  have hi1b : i1 ≤ 2 := by rw [hi1]; split <;> omega
  have hi1c : (if vb then (3 : Int) else 2) = i1 + 1 := by rw [hi1]; split <;> rfl
  have hi1d : (1 + if vb then (1 : Int) else 0) = i1 := by rw [hi1]; split <;> rfl
  have HTZ : Hid (tev ws ats en evs = if (if zb then tnum ws ats en (i1 + 1) (-2147483648) 2147483647 else (0, 0, 0)).2.2 ≠ 0 then (zeroE, (if zb then tnum ws ats en (i1 + 1) (-2147483648) 2147483647 else (0, 0, 0)).2.1, (if zb then tnum ws ats en (i1 + 1) (-2147483648) 2147483647 else (0, 0, 0)).2.2) else
      if (i1 + if zb then 1 else 0) + 1 < (ws.length : Int) then (zeroE, rd ats ((i1 + if zb then 1 else 0) + 1), 2) else
      (⟨(k : Int), nm, v, (if zb then tnum ws ats en (i1 + 1) (-2147483648) 2147483647 else (0, 0, 0)).1⟩, 0, 0)) := Lib.hid (by
    rw [HTV.out, if_neg (by simp), hi1c, hi1d])
  clear HTV hi1c hi1d
  rw [← hi1]
  clear hi1
  -- the value
  obtain ⟨⟨p0, p1, p2, p3⟩, p4, p5, p6⟩ := HX17.out.cells
  go_upto_if 85 with (fail)
  clear p0 p1 p2 p3 p4 p5 p6
  obtain ⟨⟨z, za, zzb⟩, hz⟩ : ∃ n, (if zb then tnum ws ats en (i1 + 1) (-2147483648) 2147483647 else (0, 0, 0)) = n := ⟨_, rfl⟩
  rw [hz] at HTZ
  have HZN := Lib.hid hz
  clear hz
  dsimp only at HTZ
  go_cut [10] (fun v10 wx => zzb = 0 ∧ v10 = .int .i64 (i1 + if zb then 1 else 0) ∧ Hid (XSt W wx g2 g4 g8 g9 Aw ws cw Aa ats ca en (k : Int) nm v z wk vb zb))
  case first =>
    cases zb with
    | false =>
      have hq := (if_neg (by simp)).symm.trans HZN.out
      simp only [Prod.mk.injEq] at hq
      obtain ⟨q1, q2, q3⟩ := hq
      subst q1; subst q2; subst q3
      go_wp2_with (fail)
      go_meet
      exact ⟨trivial, by simp, HX17⟩
    | true =>
      have hq := (if_pos rfl).symm.trans HZN.out
      have HQ := Lib.hid hq
      clear hq
      obtain ⟨x0, x1, x2⟩ := HX17.out.t.line.cells
      go_upto_if 97 with (first
        | (go_at_call 89; refine (hNUM.out _ (i1 + 1) (-2147483648) 2147483647 z za zzb (by omega) HX17.out.t HQ.out).mono ?_; rintro x w18 ⟨rfl, hb18⟩; have HX18 := Lib.hid (HX17.out.call hb18); clear hb18; obtain ⟨⟨p0, p1, p2, p3⟩, p4, p5, p6⟩ := HX18.out.cells; have u3 := blk_frozen HX18.out.ev 3))
      obtain ⟨W19, hW19⟩ : ∃ W19, W19 = w18.setCell ⟨g8, 3, none⟩ (.int .i64 z) := ⟨_, rfl⟩
      have HX19 : Hid (XSt W W19 g2 g4 g8 g9 Aw ws cw Aa ats ca en (k : Int) nm v z wk vb true) := Lib.hid (by rw [hW19]; exact HX18.out.set3 HW.out HA.out z)
      rw [← hW19]
      clear hW19 p0 p1 p2 p3 p4 p5 p6 u3 x0 x1 x2 HX18
      by_cases hzb : zzb ≠ 0
      · have e3 : (zzb != 0) = true := by simpa using hzb
        have hv : r = zeroE ∧ r1 = za ∧ r2 = zzb := by
          have := HR.out
          rw [HTZ.out, if_pos hzb] at this
          simp only [Prod.mk.injEq] at this
          exact ⟨this.1.symm, this.2.1.symm, this.2.2.symm⟩
        obtain ⟨rfl, rfl, rfl⟩ := hv
        obtain ⟨⟨y0, y1, y2, y3⟩, f0, f1, f2, f3⟩ := HX19.out.t.zero
        go_wp2
        obtain ⟨Wf, hWf⟩ : ∃ Wf, Wf = (((W19.setCell ⟨g4, 0, none⟩ (.int .i64 0)).setCell ⟨g4, 1, none⟩ (.int .i64 0)).setCell ⟨g4, 2, none⟩ (.int .i64 0)).setCell ⟨g4, 3, none⟩ (.int .i64 0) := ⟨_, rfl⟩
        have hd := HX19.out.t.done (.int .i64 0) (.int .i64 0) (.int .i64 0) (.int .i64 0)
        rw [← hWf] at hd ⊢
        obtain ⟨⟨z0, z1, z2, z3⟩, hB⟩ := hd
        have z0' : Wf.cell? ⟨g4, 0, none⟩ = some (.int .i64 0) := z0
        have z1' : Wf.cell? ⟨g4, 1, none⟩ = some (.int .i64 0) := z1
        have z2' : Wf.cell? ⟨g4, 2, none⟩ = some (.int .i64 0) := z2
        have z3' : Wf.cell? ⟨g4, 3, none⟩ = some (.int .i64 0) := z3
        clear hWf z0 z1 z2 z3
        refine bodyPost_ret (v := .tuple #[.agg #[.int .i64 0, .int .i64 0, .int .i64 0, .int .i64 0], .int .i64 r1, .int .i64 r2]) (by simp [results, Tryd.results61, go_sem, z0', z1', z2', z3']) rfl ⟨rfl, hB⟩
      · have hzb0 : zzb = 0 := by omega
        subst hzb0
        go_wp2_with (fail)
        go_meet
        exact ⟨trivial, by simp, HX19⟩
  case rest =>
  obtain ⟨hzzb, hv10, HX20⟩ := hcut
  subst hv10
  subst hzzb
  clear HX17 HZN
  obtain ⟨j, hj⟩ : ∃ j : Nat, (i1 + if zb then 1 else 0) = (j : Int) := Int.eq_ofNat_of_zero_le (by split <;> omega)
  have hj3 : j ≤ 3 := by have := hj; split at this <;> omega
  rw [hj]
  have HTF : Hid (tev ws ats en evs = if (j : Int) + 1 < (ws.length : Int) then (zeroE, rd ats ((j : Int) + 1), 2) else (⟨(k : Int), nm, v, z⟩, 0, 0)) := Lib.hid (by
    rw [HTZ.out, if_neg (by simp), hj])
  clear HTZ hj
  obtain ⟨x0, x1, x2⟩ := HX20.out.t.line.cells
  by_cases hlt : (j : Int) + 1 < (ws.length : Int)
  · have e5 : decide ((j : Int) + 1 < (ws.length : Int)) = true := decide_eq_true hlt
    have hv : r = zeroE ∧ r1 = rd ats ((j : Int) + 1) ∧ r2 = 2 := by
      have := HR.out
      rw [HTF.out, if_pos hlt] at this
      simp only [Prod.mk.injEq] at this
      exact ⟨this.1.symm, this.2.1.symm, this.2.2.symm⟩
    obtain ⟨rfl, rfl, rfl⟩ := hv
    obtain ⟨⟨y0, y1, y2, y3⟩, f0, f1, f2, f3⟩ := HX20.out.t.zero
    obtain ⟨ad, rfl, xa⟩ := Kd.at_int HA.out ((j : Int) + 1) (by omega) (by rw [← HL.out]; omega)
    rw [show ((j : Int) + 1).toNat = j + 1 from by omega] at xa
    have hab := World.block_lt_of_cell? _ _ xa
    replace xa := pw_cell_below HX20.out.t.below xa
    obtain ⟨ab, ao, al⟩ := ad
    have hadd : (⟨ab, ao, al⟩ : Addr).add (j + 1) = ⟨ab, ao + (j + 1), none⟩ := by simp [Addr.add]
    rw [hadd] at xa hab
    have hn1 : ab ≠ g4 := by have := HX20.out.t.old; dsimp only at hab; omega
    have hn2 : g2 ≠ g4 := HX20.out.t.ne
    have hn3 : g4 ≠ ab := Ne.symm hn1
    have hn4 : g4 ≠ g2 := Ne.symm hn2
    have ha1 : j + 1 < ats.length := by have := HL.out; omega
    have ha0 : (j : Int) + 1 < ats.length := by omega
    have ha2 : (0 : Int) ≤ (j : Int) + 1 := by omega
    go_upto_region 27 with (fail)
    go_region
    go_wp2
    obtain ⟨Wf, hWf⟩ : ∃ Wf, Wf = (((wc.setCell ⟨g4, 0, none⟩ (.int .i64 0)).setCell ⟨g4, 1, none⟩ (.int .i64 0)).setCell ⟨g4, 2, none⟩ (.int .i64 0)).setCell ⟨g4, 3, none⟩ (.int .i64 0) := ⟨_, rfl⟩
    have hd := HX20.out.t.done (.int .i64 0) (.int .i64 0) (.int .i64 0) (.int .i64 0)
    rw [← hWf] at hd ⊢
    obtain ⟨⟨z0, z1, z2, z3⟩, hB⟩ := hd
    have z0' : Wf.drew.cell? ⟨g4, 0, none⟩ = some (.int .i64 0) := z0
    have z1' : Wf.drew.cell? ⟨g4, 1, none⟩ = some (.int .i64 0) := z1
    have z2' : Wf.drew.cell? ⟨g4, 2, none⟩ = some (.int .i64 0) := z2
    have z3' : Wf.drew.cell? ⟨g4, 3, none⟩ = some (.int .i64 0) := z3
    clear hWf z0 z1 z2 z3
    refine bodyPost_ret (v := .tuple #[.agg #[.int .i64 0, .int .i64 0, .int .i64 0, .int .i64 0], .int .i64 (rd ats ((j : Int) + 1)), .int .i64 2]) (by simp [results, Tryd.results61, go_sem, z0', z1', z2', z3']) rfl ⟨rfl, hB.drew⟩
  · have e5 : decide ((j : Int) + 1 < (ws.length : Int)) = false := decide_eq_false hlt
    have hv : r = ⟨(k : Int), nm, v, z⟩ ∧ r1 = 0 ∧ r2 = 0 := by
      have := HR.out
      rw [HTF.out, if_neg hlt] at this
      simp only [Prod.mk.injEq] at this
      exact ⟨this.1.symm, this.2.1.symm, this.2.2.symm⟩
    obtain ⟨rfl, rfl, rfl⟩ := hv
    obtain ⟨⟨y0, y1, y2, y3⟩, f0, f1, f2, f3⟩ := HX20.out.t.zero
    obtain ⟨⟨p0, p1, p2, p3⟩, p4, p5, p6⟩ := HX20.out.cells
    have hn5 := HX20.out.n4
    have hn6 := Ne.symm hn5
    go_wp2
    obtain ⟨Wf, hWf⟩ : ∃ Wf, Wf = (((wc.setCell ⟨g4, 0, none⟩ (.int .i64 (k : Int))).setCell ⟨g4, 1, none⟩ (.int .i64 nm)).setCell ⟨g4, 2, none⟩ (.int .i64 v)).setCell ⟨g4, 3, none⟩ (.int .i64 z) := ⟨_, rfl⟩
    have hd := HX20.out.t.done (.int .i64 (k : Int)) (.int .i64 nm) (.int .i64 v) (.int .i64 z)
    rw [← hWf] at hd ⊢
    obtain ⟨⟨z0, z1, z2, z3⟩, hB⟩ := hd
    clear hWf
    refine bodyPost_ret (v := .tuple #[.agg #[.int .i64 (k : Int), .int .i64 nm, .int .i64 v, .int .i64 z], .int .i64 0, .int .i64 0]) (by simp [results, Tryd.results61, go_sem, z0, z1, z2, z3]) rfl ⟨rfl, hB⟩
end Go.Proofs.YthkpocgbinmeiaaDoor.P

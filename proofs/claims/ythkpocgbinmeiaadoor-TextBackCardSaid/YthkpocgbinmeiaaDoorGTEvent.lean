/- text.line's event, given: it asks that the table of kinds lies in the world. -/
import Derived.Test.YthkpocgbinmeiaaDoorGRight
import Derived.Test.YthkpocgbinmeiaaDoorP3
import Derived.Test.YthkpocgbinmeiaaDoorP2
import Derived.Deep.DeepCutAuto
namespace Go.Proofs.YthkpocgbinmeiaaDoor.P
set_option linter.unusedVariables false
set_option linter.unusedSimpArgs false
open Go Go.RowKit Go.Proofs.YthkpocgbinmeiaaDoorW.PrintWords Go.Proofs.YthkpocgbinmeiaaDoorW.PrintLast Go.Proofs.YthkpocgbinmeiaaDoorW.PrintMore Go.Proofs.YthkpocgbinmeiaaDoor.U

/-- Two words are the same. -/
def eqW (a b : ByteArray) : Bool := a.toList == b.toList
/-- A word's kind, from a kind on, so many kinds. -/
def kix (s : ByteArray) : Nat → Nat → Int
  | _, 0 => -1
  | i, d + 1 => if eqW (wordK i) s = true then (i : Int) else kix s (i + 1) d
def kindW (s : ByteArray) : Int := kix s 0 10
/-- A line lies in a block. -/
structure LineAt (w : World) (g : Nat) (Aw : Option Addr) (ws : List ByteArray) (cw : Nat) (Aa : Option Addr) (ats : List Int) (ca : Nat) (en : Int) : Prop where
  blk : w.heap[g]? = some (.cells #[.slice Aw ws.length cw, .slice Aa ats.length ca, .int .i64 en] 81 (0, 0))
  words : Kd.C Kd.string w Aw ws.length ws
  ats : Kd.C (Kd.int .i64) w Aa ats.length ats
theorem LineAt.below {w w' : World} {g : Nat} {Aw : Option Addr} {ws : List ByteArray} {cw : Nat} {Aa : Option Addr} {ats : List Int} {ca : Nat} {en : Int} (h : LineAt w g Aw ws cw Aa ats ca en) (hb : Below w.heap.size w w') : LineAt w' g Aw ws cw Aa ats ca en :=
  ⟨(hb.block g (blk_lt h.blk)).trans h.blk, Kd.C_below h.words hb, Kd.C_below h.ats hb⟩
theorem LineAt.cells {w : World} {g : Nat} {Aw : Option Addr} {ws : List ByteArray} {cw : Nat} {Aa : Option Addr} {ats : List Int} {ca : Nat} {en : Int} (h : LineAt w g Aw ws cw Aa ats ca en) : w.cell? ⟨g, 0, none⟩ = some (.slice Aw ws.length cw) ∧ w.cell? ⟨g, 1, none⟩ = some (.slice Aa ats.length ca) ∧ w.cell? ⟨g, 2, none⟩ = some (.int .i64 en) :=
  ⟨(blk_cell h.blk 0).trans rfl, (blk_cell h.blk 1).trans rfl, (blk_cell h.blk 2).trans rfl⟩
theorem word0_any (wk : ByteArray) (vb zb : Bool) (g : Nat) (Aw : Option Addr) (ws : List ByteArray) (cw : Nat) (Aa : Option Addr) (ats : List Int) (ca : Nat) (en : Int) (W : World) (hL : LineAt W g Aw ws cw Aa ats ca en) (h0 : 0 < ws.length) :
    Calls Tryd.prog 88 #[.agg #[.string wk, .bool vb, .bool zb], .pointer (some ⟨g, 0, none⟩)] W fun x w' => x = .returned (.bool (eqW wk (rdOf ByteArray.empty ws 0))) ∧ Below W.heap.size W w' := by
  have HL := Lib.hid hL
  obtain ⟨w0, hw0⟩ : ∃ w0, w0 = rdOf ByteArray.empty ws 0 := ⟨_, rfl⟩
  rw [← hw0]
  have HW0 := Lib.hid hw0
  clear hL hw0
  go_enter Tryd.func88, Tryd.ntmps88
  go_upto_region 1 with (first
    | ((with_reducible refine gate_dst (N := 2) rfl ?_); refine box_event ?hg (N := 2) ?hd (cs := #[.string wk, .bool vb, .bool zb]) (t := 106) ?hr ?_; (case hd => rfl); (case hg => rfl); (case hr => first | (go_simp; done) | (go_simp; rfl)); intro g2 hg2 w2 hbox hb; have HB2 := Lib.hid hb; have y0 : w2.cell? ⟨g2, 0, none⟩ = some (.string wk) := (blk_cell hbox 0).trans rfl; clear hbox hb hg2))
  obtain ⟨x0, x1, x2⟩ := (HL.out.below HB2.out).cells
  obtain ⟨ad, rfl, xw⟩ := Kd.at_string (HL.out.below HB2.out).words (0 : Int) (by decide) (by omega)
  have h00 : (0 : Int) < ws.length := by omega
  rw [← HW0.out, show (0 : Int).toNat = 0 from rfl] at xw
  have xw0 : w2.cell? ad = some (.string w0) := by simpa [go_sem] using xw
  go_quiet (fail)
  go_wp2
  go_ret
  exact ⟨rfl, pw_below_drewN HB2.out _⟩
set_option maxHeartbeats 1000000 in
theorem index_kind (g : Nat) (Aw : Option Addr) (ws : List ByteArray) (cw : Nat) (Aa : Option Addr) (ats : List Int) (ca : Nat) (en : Int) (W : World) (hL : LineAt W g Aw ws cw Aa ats ca en) (h0 : 0 < ws.length) (hT : KTab W) :
    Calls Tryd.prog 87 #[.slice (some ⟨0, 0, none⟩) 10 10, .func (.func 88) #[] #[.pointer (some ⟨g, 0, none⟩)]] W fun e w' => e = .returned (.int .i64 (kindW (rdOf ByteArray.empty ws 0))) ∧ Below W.heap.size W w' := by
  have KT := Lib.hid hT
  obtain ⟨w0, hw0⟩ : ∃ w0, w0 = rdOf ByteArray.empty ws 0 := ⟨_, rfl⟩
  rw [← hw0]
  have HC : Hid (∀ (wk : ByteArray) (vb zb : Bool) w, Below W.heap.size W w → Calls Tryd.prog 88 #[.agg #[.string wk, .bool vb, .bool zb], .pointer (some ⟨g, 0, none⟩)] w fun x w' => x = .returned (.bool (eqW wk w0)) ∧ Below w.heap.size w w') := Lib.hid (by
    intro wk vb zb w hw
    rw [hw0]
    exact word0_any wk vb zb g Aw ws cw Aa ats ca en w (hL.below hw) h0)
  clear hT hw0 hL
  go_enter Tryd.func87, Tryd.ntmps87
  go_wp2
  go_loopw [8] (fun v8 wr => ∃ k : Nat, k ≤ 10 ∧ v8 = .int .i64 (k : Int) ∧ Hid (kindW w0 = kix w0 k (10 - k)) ∧ Hid (Below W.heap.size W wr)) (fun v8 _ => 10 - (intOf v8).toNat)
  case atStart => exact ⟨0, Nat.zero_le _, rfl, Lib.hid rfl, Lib.hid (Below.refl _ _)⟩
  case round =>
    obtain ⟨k, hk, rfl, hI, HB⟩ := hrel
    by_cases hlt : k < 10
    · obtain ⟨k0, k1, k2⟩ := (KT.out.below HB.out) k hlt
      have hd : Hid (kix w0 k (10 - k) = if eqW (wordK k) w0 = true then (k : Int) else kix w0 (k + 1) (10 - (k + 1))) := Lib.hid (by rw [show 10 - k = (10 - (k + 1)) + 1 by omega]; rfl)
      obtain ⟨wk, hwk⟩ : ∃ wk, wk = wordK k := ⟨_, rfl⟩
      obtain ⟨vb, hvb⟩ : ∃ vb, vb = varB (k : Int) := ⟨_, rfl⟩
      obtain ⟨zb, hzb⟩ : ∃ zb, zb = valB (k : Int) := ⟨_, rfl⟩
      rw [← hwk] at k0 hd
      rw [← hvb] at k1
      rw [← hzb] at k2
      clear hwk hvb hzb
      have ho := HC.out wk vb zb wr HB.out
      have q0 : (0 : Int) ≤ (k : Int) := by omega
      have q1 : (k : Int) < 10 := by omega
      cases hgx : eqW wk w0 with
      | true =>
        rw [hgx] at ho
        have e1 := hd.out
        rw [hgx, if_pos rfl] at e1
        have e2 := Lib.hid (hI.out.trans e1)
        have HO := Lib.hid ho
        clear ho hgx hd hI e1
        go_wp2_with (go_at_call 88; refine HO.out.mono ?_; rintro e w' ⟨rfl, hb2⟩; have HB2 := Lib.hid (HB.out.trans (hb2.mono HB.out.size)); clear hb2)
        go_ret
        exact ⟨by rw [e2.out]; rfl, HB2.out⟩
      | false =>
        rw [hgx] at ho
        have e1 := hd.out
        rw [hgx, if_neg (by simp)] at e1
        have e2 := Lib.hid (hI.out.trans e1)
        have HO := Lib.hid ho
        clear ho hgx hd hI e1
        go_wp2_with (go_at_call 88; refine HO.out.mono ?_; rintro e w' ⟨rfl, hb2⟩; have HB2 := Lib.hid (HB.out.trans (hb2.mono HB.out.size)); clear hb2)
        go_roundw
        case rel => exact ⟨k + 1, by omega, by go_num, e2, HB2⟩
        case measure => simp [intOf]; omega
    · obtain rfl : k = 10 := by omega
      have e1 : kindW w0 = -1 := hI.out
      have e2 := Lib.hid e1
      clear hI e1
      go_wp2
      go_ret
      exact ⟨by rw [e2.out]; rfl, HB.out⟩
end Go.Proofs.YthkpocgbinmeiaaDoor.P

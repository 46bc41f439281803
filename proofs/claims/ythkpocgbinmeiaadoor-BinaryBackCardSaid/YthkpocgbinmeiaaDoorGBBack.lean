/- BinaryBack's walk, ours: along the ways on which it answers true. -/
import Derived.Test.YthkpocgbinmeiaaDoorUBack3
import Derived.Test.YthkpocgbinmeiaaDoorP4
import Derived.Test.YthkpocgbinmeiaaDoorGRight
import Derived.Test.YthkpocgbinmeiaaDoorGParse
import Derived.Test.YthkpocgbinmeiaaDoorGTPrint
import Derived.Test.YthkpocgbinmeiaaDoorGIs
import Derived.Test.YthkpocgbinmeiaaDoorP6
import Derived.Deep.DeepCutAuto
import Derived.Deep.RegionWith
import Derived.Laws.IdiomStrings
namespace Go.Proofs.YthkpocgbinmeiaaDoor.P
set_option linter.unusedVariables false
set_option linter.unusedSimpArgs false
open Go Go.RowKit Go.Proofs.YthkpocgbinmeiaaDoorW.PrintWords Go.Proofs.YthkpocgbinmeiaaDoorW.PrintLast Go.Proofs.YthkpocgbinmeiaaDoorW.PrintMore Go.Proofs.YthkpocgbinmeiaaDoor.U

/-- The world behind a conversion of a string to bytes. -/
def capW (w : World) (s : ByteArray) : Nat := grownCap w s.size 0 5
def bytesW (w : World) (s : ByteArray) : World := w.drew.alloc (.cells (bytesRow s (capW w s)) 5 ((bytesRow s (capW w s)).size, (bytesRow s (capW w s)).size + 1))
theorem bytesI_len (s : ByteArray) : (bytesI s.data.toList).length = s.size := by unfold bytesI; rw [List.length_map, Lib.size_eq]
theorem conv_run (s : ByteArray) (w : World) : (convert 9 23 (.string s)).run Tryd.prog w = .ok (.slice (some ⟨w.heap.size, 0, none⟩) (bytesI s.data.toList).length (capW w s)) (bytesW w s) := by
  rw [bytesI_len]
  exact run_bytes_of_string w _ _ 5 s Tryd.underlying9 Tryd.underlying23 Tryd.underlying5
theorem bytesW_C (w : World) (s : ByteArray) (hs : s.size ≤ 1000000) : Kd.C (Kd.int .u8) (bytesW w s) (some ⟨w.heap.size, 0, none⟩) (bytesI s.data.toList).length (bytesI s.data.toList) := by
  refine Kd.C_of_reads (d := (0 : Int)) (h1 := fun _ => rfl) ⟨rfl, by rw [bytesI_len]; omega, fun _ => ⟨_, rfl, fun j hj => ?_⟩⟩
  have h1 := World.cell?_alloc_mark w.drew (bytesRow s (capW w s)) 5 ((bytesRow s (capW w s)).size, (bytesRow s (capW w s)).size + 1) j
  have e : (⟨w.heap.size, 0, none⟩ : Addr).add j = ⟨w.drew.heap.size, j, none⟩ := by
    unfold Addr.add; simp only [Nat.zero_add]
    split
    · rename_i h0; rw [h0]; rfl
    · rfl
  rw [e]
  refine h1.trans ?_
  rw [bytesI_len] at hj
  unfold bytesRow
  rw [Array.getElem?_append_left (by simpa using hj)]
  unfold bytesI
  have hj' : j < s.data.toList.length := by rw [← Lib.size_eq]; exact hj
  simp only [Array.getElem?_map, List.getD_eq_getElem?_getD, List.getElem?_map, List.getElem?_eq_getElem hj', Option.map_some, Option.getD_some]
  rw [Array.getElem?_eq_getElem (by simpa using hj')]
  simp
theorem bytesW_cap (w : World) (s : ByteArray) : (bytesI s.data.toList).length ≤ capW w s := by
  rw [bytesI_len]; unfold capW; exact grownCap_ge _ _ _ _
theorem bytesW_below (w : World) (s : ByteArray) : Below w.heap.size w (bytesW w s) := below_alloc (below_drew (Below.refl _ w)) _
theorem pr_way (h : List S34) (hl : h.length ≤ 65) : ∃ bs e, (∃ K, binary_Print.f K h = some (bs, e)) ∧ ((e = 0 ∧ rightsB h = true ∧ binary_Parse.f bs = some (h, 0, 0)) ∨ e = 1) := by
  cases hr : rightsB h with
  | true =>
    obtain ⟨K, e⟩ := oprint_f h (by omega) hr
    exact ⟨_, 0, ⟨K, e K (Nat.le_refl _)⟩, .inl ⟨rfl, rfl, back_f hr⟩⟩
  | false => exact ⟨[], 1, ⟨0, oprint_no h hr 0⟩, .inr rfl⟩
theorem rd_way (b : List Int) (hl : b.length ≤ 900) (hb : ∀ x ∈ b, 0 ≤ x ∧ x ≤ 255) : ∃ y a e, binary_Parse.f b = some (y, a, e) ∧ ((e ≠ 0 ∧ y = []) ∨ (e = 0 ∧ rightsB y = true ∧ ∃ K, binary_Print.f K y = some (b, 0))) := by
  obtain ⟨y, a, e, h⟩ : ∃ y a e, tellS (parseS b) = (y, a, e) := ⟨_, _, _, rfl⟩
  refine ⟨y, a, e, by rw [parse_f (by omega) hb, h], ?_⟩
  by_cases he : e = 0
  · subst he
    obtain ⟨h1, h2, _⟩ := parse_inv hb h
    obtain ⟨K, e⟩ := oprint_f y (by have := wrong_len h1; omega) h1
    have e := e K (Nat.le_refl _)
    dsimp only at e
    rw [← h2] at e
    exact .inr ⟨rfl, h1, K, e⟩
  · exact .inl ⟨he, tell_bad h he⟩
set_option maxHeartbeats 1000000 in
set_option maxRecDepth 100000 in
theorem recantlaw04_BinaryBack.calls (A0 : Option Addr) (c0 : Nat) (l0 : List S34) (A1 : Option Addr) (c1 : Nat) (l1 : List Int) (w : World) (hr0 : Kd.C k34 w A0 l0.length l0) (hc0 : l0.length ≤ c0) (hr1 : Kd.C (Kd.int .u8) w A1 l1.length l1) (hc1 : l1.length ≤ c1) (hby : ∀ x ∈ l1, 0 ≤ x ∧ x ≤ 255) (hK : KTab w) (hI : ITab w) :
    Calls Tryd.prog 8 #[.slice A0 l0.length c0, .slice A1 l1.length c1] w fun e w' => e = .returned (.bool true) ∧ Below w.heap.size w w' := by
  have s1 : 0 ≤ mn (l0.length : Int) 65 ∧ mn (l0.length : Int) 65 ≤ (l0.length : Int) ∧ mn (l0.length : Int) 65 ≤ 65 := by unfold mn; split <;> omega
  have s2 : 0 ≤ mn (l1.length : Int) 900 ∧ mn (l1.length : Int) 900 ≤ (l1.length : Int) ∧ mn (l1.length : Int) 900 ≤ 900 := by unfold mn; split <;> omega
  obtain ⟨n, hn⟩ := Int.eq_ofNat_of_zero_le s1.1
  obtain ⟨m, hm⟩ := Int.eq_ofNat_of_zero_le s2.1
  rw [hn] at s1
  rw [hm] at s2
  obtain ⟨h, hh⟩ : ∃ h, h = l0.take n := ⟨_, rfl⟩
  obtain ⟨b, hb⟩ : ∃ b, b = l1.take m := ⟨_, rfl⟩
  have hhl : h.length = n := by rw [hh, List.length_take]; omega
  have hbl : b.length = m := by rw [hb, List.length_take]; omega
  have hrh : Kd.C k34 w A0 h.length h := by rw [hh]; exact Kd.C_take (m := n) hr0 (by omega)
  have hrb : Kd.C (Kd.int .u8) w A1 b.length b := by rw [hb]; exact Kd.C_take (m := m) hr1 (by omega)
  have hbb : ∀ x ∈ b, 0 ≤ x ∧ x ≤ 255 := fun x hx => hby x (by rw [hb] at hx; exact List.mem_of_mem_take hx)
  have hmn : (if (65 : Int) < (l0.length : Int) then (65 : Int) else (l0.length : Int)) = (n : Int) := hn
  have hmb : (if (900 : Int) < (l1.length : Int) then (900 : Int) else (l1.length : Int)) = (m : Int) := hm
  have hm0 : min (l0.length : Int) 65 = (n : Int) := by unfold mn at hn; split at hn <;> omega
  have hm1 : min (l1.length : Int) 900 = (m : Int) := by unfold mn at hm; split at hm <;> omega
  have q1 : (n : Int) ≤ l0.length := by omega
  have q2 : (m : Int) ≤ l1.length := by omega
  obtain ⟨bs, e0, ⟨K0, hp0⟩, hway0⟩ := pr_way h (by omega)
  obtain ⟨y, at1, e1, hp1, hway1⟩ := rd_way b (by omega) hbb
  have hPR := Lib.hid (fun W (hr : Kd.C k34 W A0 h.length h) (hT : KTab W) => binary_Print.calls K0 A0 c0 h bs e0 W hr (by omega) hp0 hT)
  have hRD := Lib.hid (fun W (hr : Kd.C (Kd.int .u8) W A1 b.length b) => binary_Parse.calls A1 c1 b y at1 e1 W hr (by omega) hp1)
  have hAL := fun W => Lib.hid (recantlaw04_alive.calls true W alive04)
  have HRH := Lib.hid hrh
  have HRB := Lib.hid hrb
  have HK := Lib.hid hK
  have HI := Lib.hid hI
  have HHL := Lib.hid hhl
  have HBL := Lib.hid hbl
  clear hh hb hbb hby
  subst hhl hbl
  have q3 : Hid (h.length ≤ 65) := Lib.hid (by omega)
  have q4 : Hid (b.length ≤ 900) := Lib.hid (by omega)
  have p1 : h.length ≤ c0 := by omega
  have p2 : (h.length : Int) ≤ (c0 : Int) := by omega
  have p3 : b.length ≤ c1 := by omega
  have p4 : (b.length : Int) ≤ (c1 : Int) := by omega
  have HW0 := Lib.hid hway0
  have HW1 := Lib.hid hway1
  have P1 := Lib.hid p1
  have P3 := Lib.hid p3
  clear hrh hrb hn hm s1 s2 hr0 hr1 hc0 hc1 hK hI hp0 hp1 hway0 hway1 hmn hmb
  go_enter Tryd.func8, Tryd.ntmps8
  go_upto_region 2 with (fail)
  go_quiet (fail)
  clear hm0 hm1 p1 p2 p3 p4 q1 q2
  go_upto_if 33 with (first
    | (go_at_call 12; refine (hPR.out _ (Kd.C_drewN HRH.out _) (HK.out.below (pw_below_drewN (Below.refl _ _) _))).mono ?_; rintro x w2 ⟨v2, rfl, hV2, hB2⟩; obtain ⟨A2, c2, rfl⟩ := Kd.V_slice hV2; obtain ⟨_, hc2, hC2⟩ := Kd.V_reads' hV2; have HC2 := Lib.hid hC2; have P2 := Lib.hid hc2; have HB2 : Hid (Below w.heap.size w w2) := Lib.hid ((pw_below_drewN (Below.refl w.heap.size w) _).trans hB2); clear hV2 hB2 hC2 hc2))
  go_cut [] (fun wx => Hid (Below w.heap.size w wx))
  case first =>
    rcases HW0.out with ⟨he0, hrr, hpb⟩ | he1
    · subst he0
      obtain ⟨KS, hS⟩ := esame h (by have := q3.out; omega)
      obtain ⟨sx, hsx⟩ : ∃ sx : ByteArray, sx = ⟨(textL h).toArray⟩ := ⟨_, rfl⟩
      have hsl : sx.data.toList = textL h := by rw [hsx]
      have hsz : sx.size ≤ 100000 := by
        rw [Lib.size_eq, hsl]
        have h1 := text_len h (rights_each hrr)
        have h2 := q3.out
        omega
      have htp : text_Print.f h = some (sx, 0) := by unfold text_Print.f; rw [if_pos hrr, hsx]
      have hXP := fun W (hr : Kd.C (Kd.int .u8) W A2 bs.length bs) => Lib.hid (binary_Parse.calls A2 c2 bs h 0 0 W hr P2.out hpb)
      have hTP := fun W (hr : Kd.C k34 W A0 h.length h) (hT : KTab W) (hI : ITab W) => Lib.hid (text_Print.calls A0 c0 h sx 0 W hr P1.out htp hT hI)
      have hSM := fun W A3 c3 (hr : Kd.C k34 W A3 h.length h) (hc : h.length ≤ c3) (hr2 : Kd.C k34 W A0 h.length h) => Lib.hid (recantref02_Same.calls KS A3 c3 h A0 c0 h true W hr hc hr2 P1.out hS)
      have hCV := conv_run sx
      have hIS := fun W A c (hr : Kd.C (Kd.int .u8) W A (bytesI sx.data.toList).length (bytesI sx.data.toList)) (hc : (bytesI sx.data.toList).length ≤ c) => Lib.hid (binary_Is.calls A c (bytesI sx.data.toList) true W hr hc (by rw [hsl]; exact text_is hrr))
      have HSZ := Lib.hid hsz
      clear hsx hsl hsz htp hrr hpb hS
      go_wp2_with (first
        | (go_at_call 32; refine (hXP _ HC2.out).out.mono ?_; rintro x w3 ⟨v3, rfl, hR3, hB3⟩; obtain ⟨A3, c3, rfl, hc3, hC3⟩ := Kd.R_reads hR3; have HC3 := Lib.hid hC3; have P4 := Lib.hid hc3; have HB3 : Hid (Below w.heap.size w w3) := Lib.hid (HB2.out.trans (hB3.mono HB2.out.size)); clear hR3 hB3 hC3 hc3)
        | (go_at_call 33; refine (hTP _ (Kd.C_below HRH.out HB3.out) (HK.out.below HB3.out) (HI.out.below HB3.out)).out.mono ?_; rintro x w4 ⟨rfl, hB4⟩; have HC4 := Lib.hid (Kd.C_below HC3.out hB4); have HB4 : Hid (Below w.heap.size w w4) := Lib.hid (HB3.out.trans (hB4.mono HB3.out.size)); clear hB4)
        | (go_at_call 30; refine (hSM _ A3 c3 HC4.out P4.out (Kd.C_below HRH.out HB4.out)).out.mono ?_; rintro x w5 ⟨rfl, ⟨m5, hm5⟩⟩; have HB5 : Hid (Below w.heap.size w w5) := Lib.hid (by rw [hm5]; exact pw_below_drewN HB4.out m5); clear hm5)
        | (go_at_call 13; refine (hIS _ _ _ (bytesW_C _ _ (by have := HSZ.out; omega)) (bytesW_cap _ _)).out.mono ?_; rintro x w6 ⟨rfl, hB6⟩; have hb7 := HB5.out.trans ((bytesW_below w5 sx).mono HB5.out.size); have HB6 : Hid (Below w.heap.size w w6) := Lib.hid (hb7.trans (hB6.mono hb7.size)); clear hB6 hb7))
      go_meet
      exact HB6
    · subst he1
      go_wp2_with (fail)
      go_meet
      exact HB2
  case rest =>
  clear HB2 HC2 P2
  go_upto_if 74 with (first
    | (go_at_call 32; refine (hRD.out _ (Kd.C_below HRB.out hcut.out)).mono ?_; rintro x w3 ⟨v3, rfl, hR3, hB3⟩; obtain ⟨A3, c3, rfl, hc3, hC3⟩ := Kd.R_reads hR3; have HC3 := Lib.hid hC3; have P4 := Lib.hid hc3; have HB3 : Hid (Below w.heap.size w w3) := Lib.hid (hcut.out.trans (hB3.mono hcut.out.size)); clear hR3 hB3 hC3 hc3))
  rcases HW1.out with ⟨hne, hy⟩ | ⟨he0, hry, K1, hpr⟩
  · subst hy
    have hb1 : (e1 != 0) = true := by simpa using hne
    go_wp2_with (first
      | (go_at_call 15; refine (hAL _).out.mono ?_; rintro x w4 ⟨rfl, hB4⟩; have HB4 : Hid (Below w.heap.size w w4) := Lib.hid (HB3.out.trans (hB4.mono HB3.out.size)); clear hB4))
    go_ret
    exact ⟨rfl, HB4.out⟩
  · subst he0
    obtain ⟨KS, hS⟩ := bsame b (by have := q4.out; omega)
    have hP2 := fun W (hr : Kd.C k34 W A3 y.length y) (hT : KTab W) => Lib.hid (binary_Print.calls K1 A3 c3 y b 0 W hr P4.out hpr hT)
    have hRT := fun W (hr : Kd.C k34 W A3 y.length y) (hT : KTab W) => Lib.hid (text_Right.calls A3 c3 y true W hr P4.out (by unfold text_Right.f; rw [hry]) hT)
    have hSM := fun W A5 c5 (hr : Kd.C (Kd.int .u8) W A5 b.length b) (hc : b.length ≤ c5) (hr2 : Kd.C (Kd.int .u8) W A1 b.length b) => Lib.hid (recantref03_Same.calls KS A5 c5 b A1 c1 b true W hr hc hr2 P3.out hS)
    clear hpr hry hS
    go_wp2_with (first
      | (go_at_call 12; refine (hP2 _ HC3.out (HK.out.below HB3.out)).out.mono ?_; rintro x w4 ⟨v4, rfl, hV4, hB4⟩; obtain ⟨A5, c5, rfl⟩ := Kd.V_slice hV4; obtain ⟨_, hc5, hC5⟩ := Kd.V_reads' hV4; have HC5 := Lib.hid hC5; have P5 := Lib.hid hc5; have HC6 := Lib.hid (Kd.C_below HC3.out hB4); have HB4 : Hid (Below w.heap.size w w4) := Lib.hid (HB3.out.trans (hB4.mono HB3.out.size)); clear hV4 hB4 hC5 hc5)
      | (go_at_call 15; refine (hAL _).out.mono ?_; rintro x w5 ⟨rfl, hB5⟩; have HC7 := Lib.hid (Kd.C_below HC5.out hB5); have HC8 := Lib.hid (Kd.C_below HC6.out hB5); have HB5 : Hid (Below w.heap.size w w5) := Lib.hid (HB4.out.trans (hB5.mono HB4.out.size)); clear hB5)
      | (go_at_call 31; refine (hRT _ HC8.out (HK.out.below HB5.out)).out.mono ?_; rintro x w6 ⟨rfl, hB6⟩; have HC9 := Lib.hid (Kd.C_below HC7.out hB6); have HB6 : Hid (Below w.heap.size w w6) := Lib.hid (HB5.out.trans (hB6.mono HB5.out.size)); clear hB6)
      | (go_at_call 17; refine (hSM _ A5 c5 HC9.out P5.out (Kd.C_below HRB.out HB6.out)).out.mono ?_; rintro x w7 ⟨rfl, ⟨m7, hm7⟩⟩; have HB7 : Hid (Below w.heap.size w w7) := Lib.hid (by rw [hm7]; exact pw_below_drewN HB6.out m7); clear hm7))
    go_ret
    exact ⟨rfl, HB7.out⟩
end Go.Proofs.YthkpocgbinmeiaaDoor.P

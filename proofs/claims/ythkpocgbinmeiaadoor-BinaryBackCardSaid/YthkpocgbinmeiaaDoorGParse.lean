/- binary.Parse, by hand. -/
import Derived.Test.YthkpocgbinmeiaaDoorGEvent
namespace Go.Proofs.YthkpocgbinmeiaaDoor.P
set_option linter.unusedVariables false
set_option linter.unusedSimpArgs false
open Go Go.RowKit Go.Proofs.YthkpocgbinmeiaaDoorW.PrintWords Go.Proofs.YthkpocgbinmeiaaDoorW.PrintLast Go.Proofs.YthkpocgbinmeiaaDoorW.PrintMore Go.Proofs.YthkpocgbinmeiaaDoor.U

/-- So many events are read, till one is bad. -/
def loopS (l : List Int) : Nat → RSt → List S34 → RSt × List S34
  | 0, s, evs => (s, evs)
  | r + 1, s, evs => if s.bad = 0 then loopS l r (evS l s evs).1 (evS l s evs).2 else (s, evs)
def parseS (l : List Int) : RSt × List S34 :=
  let n := numS l l.length ⟨0, 0, 0⟩
  let s1 := if (decide (n.2.bad = 0) && decide (60 < n.1)) = true then failS n.2 0 5 else n.2
  let p := loopS l n.1.toNat s1 []
  (if (decide (p.1.bad = 0) && decide (p.1.pos ≠ (l.length : Int))) = true then failS p.1 p.1.pos 2 else p.1, p.2)
def tellS (p : RSt × List S34) : List S34 × Int × Int := if p.1.bad = 0 then (p.2, 0, 0) else ([], p.1.wh, p.1.bad)
def binary_Parse.f (l : List Int) : Option (List S34 × Int × Int) := if l.length ≤ 1000000 ∧ (l.all fun x => decide (0 ≤ x) && decide (x ≤ 255)) = true then some (tellS (parseS l)) else none
theorem evS_len (l : List Int) (s : RSt) (evs : List S34) : (evS l s evs).2.length ≤ evs.length + 1 := by
  unfold evS
  dsimp only
  repeat' split
  all_goals simp
set_option maxHeartbeats 1000000 in
set_option maxRecDepth 100000 in
theorem binary_Parse.calls (A0 : Option Addr) (c0 : Nat) (l0 : List Int) (r1 : List S34) (r2 r3 : Int) (w : World) (hr : Kd.C (Kd.int .u8) w A0 l0.length l0) (hc : l0.length ≤ c0) (h : binary_Parse.f l0 = some (r1, r2, r3)) :
    Calls Tryd.prog 32 #[.slice A0 l0.length c0] w fun e w' => ∃ v0, e = .returned (.tuple #[v0, .int .i64 r2, .int .i64 r3]) ∧ Kd.R k34 34 w' w.heap.size (fun _ => True) v0 r1 ∧ Below w.heap.size w w' := by
  unfold binary_Parse.f at h
  split at h
  case isFalse => cases h
  case isTrue hg =>
  obtain ⟨hlen, hall⟩ := hg
  have hl : ∀ x ∈ l0, 0 ≤ x ∧ x ≤ 255 := fun x hx => by
    have := List.all_eq_true.1 hall x hx
    simpa using this
  injection h with h
  have HT : Hid (tellS (parseS l0) = (r1, r2, r3)) := Lib.hid h
  clear h hall
  have hnum : ∀ (W : World) (g : Nat), RdAt w W g A0 l0 c0 ⟨0, 0, 0⟩ [] → Calls Tryd.prog 68 #[.pointer (some ⟨g, 0, none⟩), .int .i64 (l0.length : Int)] W fun x w' => x = .returned (.int .u64 (numS l0 l0.length ⟨0, 0, 0⟩).1) ∧ RdAt w w' g A0 l0 c0 (numS l0 l0.length ⟨0, 0, 0⟩).2 [] := by
    intro W g hR
    obtain ⟨⟨Ao, co, hR, hO⟩, hB, hg⟩ := hR
    refine (number_run hl hlen hR (Kd.C_below hr hB) hc l0.length (Nat.le_refl _)).mono ?_
    rintro x w' ⟨rfl, hR2, hK2, hB2⟩
    exact ⟨rfl, RdAt.step hO hB hg hR2 hK2 hB2⟩
  have hfl : ∀ (W : World) (g : Nat) (s : RSt) (evs : List S34) (a e : Int), RdAt w W g A0 l0 c0 s evs → Calls Tryd.prog 69 #[.pointer (some ⟨g, 0, none⟩), .int .i64 a, .int .i64 e] W fun x w' => x = .returned (.tuple #[]) ∧ RdAt w w' g A0 l0 c0 (failS s a e) evs := by
    intro W g s evs a e hR
    obtain ⟨⟨Ao, co, hR, hO⟩, hB, hg⟩ := hR
    refine (fail_run hR a e).mono ?_
    rintro x w' ⟨rfl, hR2, hK2, hB2⟩
    exact ⟨rfl, RdAt.step hO hB hg hR2 hK2 hB2⟩
  have hev : ∀ (W : World) (g : Nat) (s : RSt) (evs : List S34), s.bad = 0 → evs.length ≤ 100 → RdAt w W g A0 l0 c0 s evs → Calls Tryd.prog 70 #[.pointer (some ⟨g, 0, none⟩)] W fun x w' => x = .returned (.tuple #[]) ∧ RdAt w w' g A0 l0 c0 (evS l0 s evs).1 (evS l0 s evs).2 :=
    fun W g s evs hb he hR => event_run hl hlen hR hr hc hb he
  have hz := @num_zero l0 l0.length ⟨0, 0, 0⟩
  have hok := @num_ok l0 hl l0.length (Nat.le_refl _) ⟨0, 0, 0⟩
  obtain ⟨tl, htl⟩ : ∃ tl, parseS l0 = tl := ⟨_, rfl⟩
  rw [htl] at HT
  unfold parseS at htl
  obtain ⟨n, s0, hn⟩ : ∃ n s0, numS l0 l0.length ⟨0, 0, 0⟩ = (n, s0) := ⟨_, _, rfl⟩
  rw [hn] at hnum hz hok htl
  dsimp only at hnum hz hok htl
  clear hn
  have hn0 : 0 ≤ n ∧ n < 18446744073709551616 := by
    by_cases hb : s0.bad = 0
    · obtain ⟨_, h1, h2, _⟩ := hok hb; exact ⟨h1, h2⟩
    · rw [hz hb]; omega
  obtain ⟨N, rfl⟩ := Int.eq_ofNat_of_zero_le hn0.1
  obtain ⟨s1, hs1⟩ : ∃ s1, (if (decide (s0.bad = 0) && decide ((60 : Int) < (N : Int))) = true then failS s0 0 5 else s0) = s1 := ⟨_, rfl⟩
  rw [hs1, Int.toNat_natCast] at htl
  have hN60 : s1.bad = 0 → N ≤ 60 := by
    intro hb
    by_cases hb0 : s0.bad = 0
    · by_cases h60 : (60 : Int) < (N : Int)
      · rw [if_pos (by simp only [hb0, h60, decide_true, Bool.and_self])] at hs1
        rw [← hs1] at hb
        unfold failS at hb
        rw [if_pos hb0] at hb
        simp at hb
      · omega
    · have := hz hb0; omega
  obtain ⟨p, pe, hp⟩ : ∃ p pe, loopS l0 N s1 [] = (p, pe) := ⟨_, _, rfl⟩
  rw [hp] at htl
  dsimp only at htl
  obtain ⟨s2, hs2⟩ : ∃ s2, (if (decide (p.bad = 0) && decide (p.pos ≠ (l0.length : Int))) = true then failS p p.pos 2 else p) = s2 := ⟨_, rfl⟩
  rw [hs2] at htl
  subst htl
  have HNM := Lib.hid hnum
  have HFL := Lib.hid hfl
  have HEV := Lib.hid hev
  have HS1 := Lib.hid hs1
  have HS2 := Lib.hid hs2
  have HP := Lib.hid hp
  have HN60 := Lib.hid hN60
  have HN := Lib.hid hn0.2
  clear hnum hfl hev hs1 hs2 hp hN60 hn0 hz hok hl hr
  go_enter Tryd.func32, Tryd.ntmps32
  go_upto_region 3 with (first
    | ((with_reducible refine gate_dst (N := 10) rfl ?_); refine box_event ?hg (N := 10) ?hd (cs := #[.slice A0 l0.length c0, .int .i64 0, .slice none 0 0, .int .i64 0, .int .i64 0]) (t := 95) ?hr ?_; (case hd => rfl); (case hg => rfl); (case hr => first | (go_simp; done) | (go_simp; rfl)); intro g hg w1 hbox hb; have HR1 : Hid (RdAt w w1 g A0 l0 c0 ⟨0, 0, 0⟩ []) := Lib.hid ⟨⟨none, 0, hbox, Kd.R_nil _ _ _ _ _⟩, hb, Nat.le_of_eq hg.symm⟩; clear hbox hb hg)
    | (go_at_call 68; refine (HNM.out _ _ HR1.out).mono ?_; rintro x w2 ⟨rfl, hR2⟩; have HR2 := Lib.hid hR2; clear hR2 HR1))
  have HGL : Hid (0 ≤ (N : Int)) := Lib.hid (by omega)
  obtain ⟨g', hgg⟩ : ∃ g', g' = g := ⟨_, rfl⟩
  -- too many
  go_cut [23] (fun v23 wx => v23 = .bool (decide (s0.bad = 0) && decide ((60 : Int) < (N : Int))) ∧ Hid (RdAt w wx g A0 l0 c0 s0 []))
  case first =>
    obtain ⟨Ao, co, hR, _⟩ := HR2.out.rdr
    obtain ⟨d0, d1, d2, d3, d4⟩ := hR.cells
    clear hR
    by_cases hb2 : s0.bad = 0
    · have hbb : (s0.bad == 0) = true := by simpa using hb2
      go_wp2_with fail
      go_meet
      exact ⟨by simp [hb2], HR2⟩
    · have hbb : (s0.bad == 0) = false := by simpa using hb2
      go_wp2_with fail
      go_meet
      exact ⟨by simp [hb2], HR2⟩
  case rest =>
  obtain ⟨hv23, HR3⟩ := hcut
  subst hv23
  clear HR2
  generalize hb4 : (decide (s0.bad = 0) && decide ((60 : Int) < (N : Int))) = b4
  rw [hb4] at HS1
  clear hb4
  go_upto_if 23 with (fail)
  go_cut [] (fun wx => Hid (RdAt w wx g A0 l0 c0 s1 []))
  case first =>
    cases b4 with
    | true =>
      have hs := HS1.out
      rw [if_pos rfl] at hs
      subst hs
      go_wp2_with (first
        | (go_at_call 69; refine (HFL.out _ _ _ _ _ _ HR3.out).mono ?_; rintro x wy ⟨rfl, hR4⟩; have HR4 := Lib.hid hR4; clear hR4))
      go_meet
      exact HR4
    | false =>
      have hs := HS1.out
      rw [if_neg (by simp)] at hs
      subst hs
      go_wp2_with fail
      go_meet
      exact HR3
  case rest =>
  have HR5 := hcut
  clear hcut HR3
  go_wp2_with fail
  go_loopw [27] (fun v27 wr => ∃ (i : Nat) (s : RSt) (evs : List S34), i ≤ N ∧ v27 = .int .u64 (i : Int) ∧ evs.length ≤ i ∧ Hid (RdAt w wr g A0 l0 c0 s evs) ∧ Hid (loopS l0 (N - i) s evs = (p, pe)) ∧ Hid (s.bad = 0 → N ≤ 60)) (fun v27 _ => N - (intOf v27).toNat)
  case atStart => exact ⟨0, s1, [], Nat.zero_le _, rfl, Nat.le_refl _, HR5, HP, HN60⟩
  case round =>
    obtain ⟨i, s, evs, hi, rfl, hle, HR, HLP, HB60⟩ := hrel
    clear HR5
    obtain ⟨Ao, co, hR, hO⟩ := HR.out.rdr
    obtain ⟨d0, d1, d2, d3, d4⟩ := hR.cells
    have HOO := Lib.hid hO
    clear hR hO
    by_cases hgo : i < N ∧ s.bad = 0
    · obtain ⟨hlt, hb⟩ := hgo
      have hbb : (s.bad != 0) = false := by simpa using hb
      have h60 := HB60.out hb
      have hst : loopS l0 (N - (i + 1)) (evS l0 s evs).1 (evS l0 s evs).2 = (p, pe) := by
        have := HLP.out
        rw [show N - i = (N - (i + 1)) + 1 by omega] at this
        unfold loopS at this
        rw [if_pos hb] at this
        exact this
      have hel := evS_len l0 s evs
      have HST := Lib.hid hst
      clear hst
      go_wp2_with (first
        | (go_at_call 70; refine (HEV.out _ _ _ _ hb (by omega) HR.out).mono ?_; rintro x wy ⟨rfl, hR4⟩; have HR4 := Lib.hid hR4; clear hR4))
      go_roundw
      case rel => exact ⟨i + 1, (evS l0 s evs).1, (evS l0 s evs).2, by omega, by first | go_num | (rw [Go.Proofs.YthkpocgbinmeiaaDoor.U.wu64 (by omega) (by omega)]; rfl), by omega, HR4, HST, Lib.hid (fun _ => h60)⟩
      case measure => simp [intOf]; omega
    · have hse : s = p ∧ evs = pe := by
        have := HLP.out
        by_cases hlt : i < N
        · rw [show N - i = (N - (i + 1)) + 1 by omega] at this
          unfold loopS at this
          rw [if_neg (fun hb => hgo ⟨hlt, hb⟩)] at this
          injection this with h1 h2
          exact ⟨h1, h2⟩
        · rw [show N - i = 0 by omega] at this
          unfold loopS at this
          injection this with h1 h2
          exact ⟨h1, h2⟩
      obtain ⟨rfl, rfl⟩ := hse
      have hs2 := HS2.out
      have ht := HT.out
      clear HLP HP
      by_cases hb : s.bad = 0
      · have hbb : (s.bad != 0) = false := by simpa using hb
        have hbe : (s.bad == 0) = true := by simpa using hb
        obtain rfl : i = N := by omega
        by_cases hps : s.pos = (l0.length : Int)
        · rw [if_neg (by simp [hps])] at hs2
          subst hs2
          unfold tellS at ht
          dsimp only at ht
          rw [if_pos hb] at ht
          simp only [Prod.mk.injEq] at ht
          obtain ⟨rfl, rfl, rfl⟩ := ht
          have hpe : (s.pos != (l0.length : Int)) = false := by simpa using hps
          clear hgo hb hps
          go_wp2_with fail
          go_ret3
          exact ⟨_, rfl, Kd.R_mono HOO.out (fun _ _ => trivial), HR.out.below⟩
        · rw [if_pos (by simp [hb, hps])] at hs2
          have hs2' : s2 = ⟨s.pos, 2, s.pos⟩ := by rw [← hs2]; unfold failS; rw [if_pos hb]
          rw [hs2'] at ht
          unfold tellS at ht
          dsimp only at ht
          rw [if_neg (by decide)] at ht
          simp only [Prod.mk.injEq] at ht
          obtain ⟨rfl, rfl, rfl⟩ := ht
          have hpe : (s.pos != (l0.length : Int)) = true := by simpa using hps
          rw [hs2'] at hs2
          have HS3 := Lib.hid hs2
          clear hs2 hs2' hgo hb hps
          go_wp2_with (first
            | (go_at_call 69; refine (HFL.out _ _ _ _ _ _ HR.out).mono ?_; rintro x wy ⟨rfl, hR4⟩; rw [HS3.out] at hR4; have HR4 := Lib.hid hR4; clear d0 d1 d2 d3 d4; obtain ⟨Ao2, co2, hR5, _⟩ := hR4.rdr; obtain ⟨d0, d1, d2, d3, d4⟩ := hR5.cells; have HR4 := Lib.hid hR4; clear hR4 hR5))
          go_quiet (fail)
          go_wp2_with fail
          go_ret3
          exact ⟨_, rfl, Kd.R_nil _ _ _ _ _, pw_below_drewN HR4.out.below _⟩
      · have hbb : (s.bad != 0) = true := by simpa using hb
        have hbe : (s.bad == 0) = false := by simpa using hb
        rw [if_neg (by simp [hb])] at hs2
        subst hs2
        unfold tellS at ht
        dsimp only at ht
        rw [if_neg hb] at ht
        simp only [Prod.mk.injEq] at ht
        obtain ⟨rfl, rfl, rfl⟩ := ht
        by_cases hlt : i < N
        all_goals
          clear hgo hb
          go_wp2_with fail
          go_quiet (fail)
          go_wp2_with fail
          go_ret3
          exact ⟨_, rfl, Kd.R_nil _ _ _ _ _, pw_below_drewN HR.out.below _⟩
end Go.Proofs.YthkpocgbinmeiaaDoor.P

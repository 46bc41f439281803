/- cycle.Walk, given. -/
import Derived.Test.YtimbamimabdmcaaGMay
namespace Go.Proofs.Ytimbamimabdmcaa.P
set_option linter.unusedVariables false
set_option linter.unusedSimpArgs false
open Go Go.RowKit Go.Proofs.YtimbamimabdmcaaW.PrintWords Go.Proofs.YtimbamimabdmcaaW.PrintLast Go.Proofs.YtimbamimabdmcaaW.PrintMore

theorem bad_any (A : Option Addr) (n c : Nat) (x : Int) (B : Nat) (W : World) (h : Boxed W B 22 (.slice A n c)) :
    Calls Try.prog 32 #[.int .i64 x, .pointer (some ⟨B, 0, none⟩)] W fun e w' => e = .returned (.bool (decide (x < 0 ∨ (n : Int) ≤ x))) ∧ W = w' := by
  have hc := h.cell
  have hf := h.frozen
  by_cases h0 : x < 0
  · have hd : decide (x < 0 ∨ (n : Int) ≤ x) = true := decide_eq_true (.inl h0)
    rw [hd]
    have hd2 : decide (x < 0) = true := decide_eq_true h0
    clear hd
    go_enter Try.func32, Try.ntmps32
    go_wp2
    go_ret
    exact ⟨rfl, rfl⟩
  · have hd2 : decide (x < 0) = false := decide_eq_false h0
    by_cases h1 : (n : Int) ≤ x
    · have hd : decide (x < 0 ∨ (n : Int) ≤ x) = true := decide_eq_true (.inr h1)
      rw [hd]
      have hd3 : decide ((n : Int) ≤ x) = true := decide_eq_true h1
      clear hd
      go_enter Try.func32, Try.ntmps32
      go_wp2
      go_ret
      exact ⟨by first | rfl | simp [hd3], rfl⟩
    · have hd : decide (x < 0 ∨ (n : Int) ≤ x) = false := decide_eq_false (by omega)
      rw [hd]
      have hd3 : decide ((n : Int) ≤ x) = false := decide_eq_false h1
      clear hd
      go_enter Try.func32, Try.ntmps32
      go_wp2
      go_ret
      exact ⟨by first | rfl | simp [hd3], rfl⟩
theorem index_bad (A : Option Addr) (c n : Nat) (l : List Int) (A1 : Option Addr) (c1 : Nat) (B : Nat) (w : World) (hr : Kd.C (Kd.int .i64) w A l.length l) (hb : Boxed w B 22 (.slice A1 n c1)) :
    Calls Try.prog 48 #[.slice A l.length c, .func (.func 32) #[] #[.pointer (some ⟨B, 0, none⟩)]] w fun e w' => e = .returned (.int .i64 (idxOf (fun x => decide (x < 0 ∨ (n : Int) ≤ x)) l 0)) ∧ w = w' := by
  have HR := Lib.hid hr
  have hmax : l.length ≤ 9223372036854775807 := hr.2.1
  obtain ⟨g, hg⟩ : ∃ g : Int → Bool, g = fun x => decide (x < 0 ∨ (n : Int) ≤ x) := ⟨_, rfl⟩
  rw [← hg]
  have HG := Lib.hid hg
  clear hr hg
  go_enter Try.func48, Try.ntmps48
  go_wp2
  go_loop [8] (fun i => ∃ k : Nat, k ≤ l.length ∧ i = .int .i64 k ∧ Hid (idxOf g l 0 = idxOf g (l.drop k) k)) (fun i => l.length - (intOf i).toNat)
  case atStart => exact ⟨0, Nat.zero_le _, rfl, Lib.hid rfl⟩
  case round =>
    obtain ⟨k, hk, rfl, hI⟩ := hrel
    by_cases hlt : k < l.length
    · obtain ⟨ad, rfl, hcell⟩ := Kd.at_int HR.out (k : Int) (by omega) (by omega)
      rw [Int.toNat_natCast] at hcell
      have hd := Lib.hid (idxOf_drop g l k hlt)
      have ho := bad_any A1 n c1 (rd l k) B w hb
      rw [show decide (rd l k < 0 ∨ (n : Int) ≤ rd l k) = g (rd l k) by rw [HG.out]] at ho
      cases hgx : g (rd l k) with
      | true =>
        rw [hgx] at ho
        have e1 := hd.out
        rw [hgx, if_pos rfl] at e1
        have e2 := Lib.hid (hI.out.trans e1)
        have HO := Lib.hid ho
        clear ho hgx hd hI e1
        go_wp2_with (go_at_call 32; refine HO.out.mono ?_; rintro e w' ⟨rfl, rfl⟩)
        go_ret
        exact ⟨by rw [e2.out]; rfl, rfl⟩
      | false =>
        rw [hgx] at ho
        have e1 := hd.out
        rw [hgx, if_neg (by simp)] at e1
        have e2 := Lib.hid (hI.out.trans e1)
        have HO := Lib.hid ho
        clear ho hgx hd hI e1
        go_wp2_with (go_at_call 32; refine HO.out.mono ?_; rintro e w' ⟨rfl, rfl⟩)
        go_round
        case rel => exact ⟨k + 1, by omega, by go_num, e2⟩
        case measure => simp [intOf]; omega
    · obtain rfl : k = l.length := by omega
      have e1 := hI.out
      rw [List.drop_length] at e1
      have e2 := Lib.hid e1
      clear hI e1
      go_wp2
      go_ret
      exact ⟨by rw [e2.out]; rfl, rfl⟩
theorem contains_bad (A : Option Addr) (c n : Nat) (l : List Int) (A1 : Option Addr) (c1 : Nat) (B : Nat) (w : World) (hr : Kd.C (Kd.int .i64) w A l.length l) (hb : Boxed w B 22 (.slice A1 n c1)) :
    Calls Try.prog 31 #[.slice A l.length c, .func (.func 32) #[] #[.pointer (some ⟨B, 0, none⟩)]] w fun e w' => e = .returned (.bool (l.any (fun x => decide (x < 0 ∨ (n : Int) ≤ x)))) ∧ w = w' := by
  have hi := index_bad A c n l A1 c1 B w hr hb
  have ha := Lib.hid (idxOf_any (fun x => decide (x < 0 ∨ (n : Int) ≤ x)) l 0)
  obtain ⟨r, hr⟩ : ∃ r, r = idxOf (fun x => decide (x < 0 ∨ (n : Int) ≤ x)) l 0 := ⟨_, rfl⟩
  rw [← hr] at ha hi
  clear hr
  go_enter Try.func31, Try.ntmps31
  go_wp2_with (go_at_call 48; refine hi.mono ?_; rintro e w' ⟨rfl, rfl⟩)
  go_ret
  exact ⟨by rw [← ha.out]; rfl, rfl⟩
theorem rd_in {l : List Int} {n : Nat} (h : l.any (fun x => decide (x < 0 ∨ (n : Int) ≤ x)) = false) (j : Nat) (hj : j < l.length) : 0 ≤ rd l (j : Int) ∧ rd l (j : Int) < n := by
  have h1 := List.any_eq_false.1 h (rd l j) (by unfold rd; simp [List.getD_eq_getElem?_getD, List.getElem?_eq_getElem hj])
  have h2 := of_decide_eq_false (Bool.eq_false_iff.2 h1)
  omega
def bitAt (m : Int) (i : Nat) : Int := bits BinOp.and IntKind.u32 (m / 2 ^ min i 32) 1
def orBit (m : Int) (i : Nat) : Int := bits BinOp.or IntKind.u32 m (2 ^ min i 32 % 4294967296)
def walkGo (l0 l1 : List Int) : Nat → Int → Nat → Bool
  | 0, _, _ => decide (0 < l1.length)
  | d + 1, m, k => if bitAt m (rd l1 (k : Int)).toNat = 1 then false else if bitAt (rd l0 (rd l1 (k : Int))) (rd l1 (((k + 1) % l1.length : Nat) : Int)).toNat = 0 then false else walkGo l0 l1 d (orBit m (rd l1 (k : Int)).toNat) (k + 1)
theorem cwalk_in (A0 : Option Addr) (c0 : Nat) (l0 : List Int) (A1 : Option Addr) (c1 : Nat) (l1 : List Int) (w : World) (hr0 : Kd.C (Kd.int .u32) w A0 l0.length l0) (hc0 : l0.length ≤ c0) (hr1 : Kd.C (Kd.int .i64) w A1 l1.length l1) (hc1 : l1.length ≤ c1)
    (hx : ∀ x ∈ l0, 0 ≤ x ∧ x < 4294967296) (hm : mayB l0 = true) (hbd : l1.any (fun x => decide (x < 0 ∨ (l0.length : Int) ≤ x)) = false) :
    Calls Try.prog 9 #[.slice A0 l0.length c0, .slice A1 l1.length c1] w fun e w' => e = .returned (.tuple #[.bool (walkGo l0 l1 l1.length 0 0), .int .i64 0]) ∧ Below w.heap.size w w' := by
  have HB := Boxed.new w 22 (.slice A0 l0.length c0)
  have hbl := (Below.refl _ w).alloc (Nat.le_refl _) (.cells #[.slice A0 l0.length c0] 22)
  obtain ⟨w1, hw1⟩ : ∃ w1, w1 = w.alloc (.cells #[.slice A0 l0.length c0] 22) := ⟨_, rfl⟩
  have hm1 := Lib.hid (cycle_may.calls A0 c0 l0 true w1 (Kd.C_below hr0 (hw1 ▸ hbl)) hc0 (by unfold cycle_may.f; rw [if_pos hx, hm]))
  have hmax : l1.length ≤ 9223372036854775807 := hr1.2.1
  have HR0 := Lib.hid hr0
  have HR1 := Lib.hid hr1
  rw [← hw1] at HB hbl
  have HBl := Lib.hid hbl
  have HX := Lib.hid hx
  have HD := Lib.hid hbd
  have HBX := Lib.hid HB
  obtain ⟨r, hr⟩ : ∃ r, r = walkGo l0 l1 l1.length 0 0 := ⟨_, rfl⟩
  rw [← hr]
  have HV := Lib.hid hr
  clear hr0 hr1 hx hm hbd hbl HB hr
  go_enter Try.func9, Try.ntmps9
  go_wp2_with (first
    | (rw [← hw1]; go_at_call 26; refine hm1.out.mono ?_; rintro e w2 ⟨rfl, hB2⟩; have HB2 : Boxed w2 w.heap.size 22 (.slice A0 l0.length c0) := (hB2.block _ HBX.out.lt).trans HBX.out; have hc2 := HB2.cell; have hf2 := HB2.frozen; have HBw := Lib.hid (HBl.out.trans (hB2.mono HBl.out.size)); have HB2 := Lib.hid HB2; clear hB2)
    | (go_at_call 31; refine (contains_bad A1 c1 l0.length l1 A0 c0 _ _ (Kd.C_below HR1.out HBw.out) HB2.out).mono ?_; rintro e w3 ⟨rfl, rfl⟩; rw [HD.out]))
  have hHR0 := Lib.hid (Kd.C_below HR0.out HBw.out)
  have hHR1 := Lib.hid (Kd.C_below HR1.out HBw.out)
  go_loop [6, 20] (fun s i => ∃ (k : Nat) (m : Int), k ≤ l1.length ∧ i = .int .i64 k ∧ s = .int .u32 m ∧ Hid (r = walkGo l0 l1 (l1.length - k) m k)) (fun s i => l1.length - (intOf i).toNat)
  case atStart => exact ⟨0, 0, Nat.zero_le _, rfl, rfl, HV⟩
  case round =>
    obtain ⟨k, m, hk, rfl, rfl, hI⟩ := hrel
    by_cases hlt : k < l1.length
    · obtain ⟨ad, e1, hcell⟩ := Kd.at_int hHR1.out (k : Int) (by omega) (by omega)
      rw [Int.toNat_natCast] at hcell
      subst e1
      have hjl : (k + 1) % l1.length < l1.length := Nat.mod_lt _ (by omega)
      obtain ⟨ad2, e2, hcell2⟩ := Kd.at_int hHR1.out (((k + 1) % l1.length : Nat) : Int) (by omega) (by omega)
      rw [Int.toNat_natCast] at hcell2
      cases e2
      have hin : ∀ j, j < l1.length → 0 ≤ rd l1 (j : Int) ∧ rd l1 (j : Int) < l0.length := rd_in HD.out
      have hik := hin k hlt
      have hij := hin _ hjl
      have e4 := hI.out
      rw [show l1.length - k = (l1.length - (k + 1)) + 1 by omega] at e4
      unfold walkGo at e4
      obtain ⟨y, hy⟩ : ∃ y, y = rd l1 (((k + 1) % l1.length : Nat) : Int) := ⟨_, rfl⟩
      obtain ⟨x, hx⟩ : ∃ x, x = rd l1 (k : Int) := ⟨_, rfl⟩
      rw [← hy] at hcell2 hij e4
      rw [← hx] at hcell hik e4
      obtain ⟨i, rfl⟩ := Int.eq_ofNat_of_zero_le hik.1
      obtain ⟨j, rfl⟩ := Int.eq_ofNat_of_zero_le hij.1
      rw [Int.toNat_natCast, Int.toNat_natCast] at e4
      obtain ⟨ad0, e3, hcell3⟩ := Kd.at_int hHR0.out (i : Int) hik.1 hik.2
      rw [Int.toNat_natCast] at hcell3
      subst e3
      obtain ⟨a, ha⟩ : ∃ a, a = rd l0 (i : Int) := ⟨_, rfl⟩
      rw [← ha] at hcell3 e4
      clear ha hy hx hin hI HV
      have hp0 : 0 ≤ ((k : Int) + 1) % (l1.length : Int) := Int.emod_nonneg _ (by omega)
      have hp1 : ((k : Int) + 1) % (l1.length : Int) < (l1.length : Int) := Int.emod_lt_of_pos _ (by omega)
      by_cases b1 : bitAt m i = 1
      · rw [if_pos b1] at e4
        subst e4
        have b2 : (bits BinOp.and IntKind.u32 (m / 2 ^ min i 32) 1 == 1) = true := beq_iff_eq.2 b1
        clear b1
        go_wp2
        go_ret2
        exact ⟨rfl, HBw.out⟩
      · rw [if_neg b1] at e4
        have b2 : (bits BinOp.and IntKind.u32 (m / 2 ^ min i 32) 1 == 1) = false := beq_eq_false_iff_ne.2 b1
        clear b1
        by_cases b3 : bitAt a j = 0
        · rw [if_pos b3] at e4
          subst e4
          have b4 : (bits BinOp.and IntKind.u32 (a / 2 ^ min j 32) 1 == 0) = true := beq_iff_eq.2 b3
          clear b3
          go_wp2
          go_ret2
          exact ⟨rfl, HBw.out⟩
        · rw [if_neg b3] at e4
          have b4 : (bits BinOp.and IntKind.u32 (a / 2 ^ min j 32) 1 == 0) = false := beq_eq_false_iff_ne.2 b3
          have HE := Lib.hid e4
          clear b3 e4
          go_wp2
          go_round
          case rel => exact ⟨k + 1, orBit m i, by omega, by go_num, rfl, HE⟩
          case measure => simp [intOf]; omega
    · obtain rfl : k = l1.length := by omega
      have e4 := hI.out
      rw [Nat.sub_self] at e4
      unfold walkGo at e4
      have HE := Lib.hid e4
      clear e4 hI HV
      go_wp2
      go_ret2
      exact ⟨by rw [HE.out]; simp, HBw.out⟩
def cycle_Walk.f (l0 l1 : List Int) : Option (Bool × Int) :=
  if (∀ x ∈ l0, 0 ≤ x ∧ x < 4294967296) then (if mayB l0 = true then (if l1.any (fun x => decide (x < 0 ∨ (l0.length : Int) ≤ x)) = true then some (false, 7) else some (walkGo l0 l1 l1.length 0 0, 0)) else some (false, 1)) else none
theorem cycle_Walk.calls (A0 : Option Addr) (c0 : Nat) (l0 : List Int) (A1 : Option Addr) (c1 : Nat) (l1 : List Int) (r1 : Bool) (r2 : Int) (w : World) (hr0 : Kd.C (Kd.int .u32) w A0 l0.length l0) (hc0 : l0.length ≤ c0) (hr1 : Kd.C (Kd.int .i64) w A1 l1.length l1) (hc1 : l1.length ≤ c1) (h : cycle_Walk.f l0 l1 = some (r1, r2)) :
    Calls Try.prog 9 #[.slice A0 l0.length c0, .slice A1 l1.length c1] w fun e w' => e = .returned (.tuple #[.bool r1, .int .i64 r2]) ∧ Below w.heap.size w w' := by
  unfold cycle_Walk.f at h
  split at h
  case isFalse => cases h
  rename_i hx
  have HB := Boxed.new w 22 (.slice A0 l0.length c0)
  have hbl := (Below.refl _ w).alloc (Nat.le_refl _) (.cells #[.slice A0 l0.length c0] 22)
  split at h
  case isTrue hm =>
    split at h
    case isTrue hbd =>
      cases h
      obtain ⟨w1, hw1⟩ : ∃ w1, w1 = w.alloc (.cells #[.slice A0 l0.length c0] 22) := ⟨_, rfl⟩
      have hm1 := Lib.hid (cycle_may.calls A0 c0 l0 true w1 (Kd.C_below hr0 (hw1 ▸ hbl)) hc0 (by unfold cycle_may.f; rw [if_pos hx, hm]))
      have hmax : l1.length ≤ 9223372036854775807 := hr1.2.1
      have HR1 := Lib.hid hr1
      rw [← hw1] at HB hbl
      have HBl := Lib.hid hbl
      have HD := Lib.hid hbd
      have HBX := Lib.hid HB
      clear hr0 hr1 hx hm hbd hbl HB
      go_enter Try.func9, Try.ntmps9
      go_wp2_with (first
        | (rw [← hw1]; go_at_call 26; refine hm1.out.mono ?_; rintro e w2 ⟨rfl, hB2⟩; have HB2 : Boxed w2 w.heap.size 22 (.slice A0 l0.length c0) := (hB2.block _ HBX.out.lt).trans HBX.out; have hc2 := HB2.cell; have hf2 := HB2.frozen; have HBw := Lib.hid (HBl.out.trans (hB2.mono HBl.out.size)); have HB2 := Lib.hid HB2; clear hB2)
        | (go_at_call 31; refine (contains_bad A1 c1 l0.length l1 A0 c0 _ _ (Kd.C_below HR1.out HBw.out) HB2.out).mono ?_; rintro e w3 ⟨rfl, rfl⟩; rw [HD.out]))
      go_ret2
      exact ⟨rfl, HBw.out⟩
    case isFalse hbd =>
      cases h
      exact cwalk_in A0 c0 l0 A1 c1 l1 w hr0 hc0 hr1 hc1 hx hm (Bool.eq_false_iff.2 hbd)
  case isFalse hm =>
    cases h
    obtain ⟨w1, hw1⟩ : ∃ w1, w1 = w.alloc (.cells #[.slice A0 l0.length c0] 22) := ⟨_, rfl⟩
    have hm1 := Lib.hid (cycle_may.calls A0 c0 l0 false w1 (Kd.C_below hr0 (hw1 ▸ hbl)) hc0 (by unfold cycle_may.f; rw [if_pos hx, Bool.eq_false_iff.2 hm]))
    rw [← hw1] at HB hbl
    have HBl := Lib.hid hbl
    have HBX := Lib.hid HB
    clear hr0 hr1 hx hm hbl HB
    go_enter Try.func9, Try.ntmps9
    go_wp2_with (rw [← hw1]; go_at_call 26; refine hm1.out.mono ?_; rintro e w2 ⟨rfl, hB2⟩; have HBw := Lib.hid (HBl.out.trans (hB2.mono HBl.out.size)); clear hB2)
    go_ret2
    exact ⟨rfl, HBw.out⟩
end Go.Proofs.Ytimbamimabdmcaa.P

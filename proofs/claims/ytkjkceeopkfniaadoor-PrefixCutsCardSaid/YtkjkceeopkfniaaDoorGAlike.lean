/- prefix.Alike, given: whether two rows of events tell the same of each transaction; slices.Concat, slices.Equal at events. -/
import Derived.Test.YtkjkceeopkfniaaDoorGOf3
import Derived.Test.YtkjkceeopkfniaaDoorGCheck
import Derived.Laws.StructEq
namespace Go.Proofs.YtkjkceeopkfniaaDoor.P
set_option linter.unusedVariables false
set_option linter.unusedSimpArgs false
open Go Go.RowKit Go.Proofs.YtkjkceeopkfniaaDoorW.PrintWords Go.Proofs.YtkjkceeopkfniaaDoorW.PrintLast Go.Proofs.YtkjkceeopkfniaaDoorW.PrintMore Go.Proofs.YtkjkceeopkfniaaDoor.U

theorem infoCatEs : (Tryd.prog.info? 22).map (fun i => (i.zero, i.size, i.bytes)) = some (some (.slice none 0 0), 1, 24) := by kernel_rfl
set_option maxHeartbeats 1000000 in
theorem grow_nilE (n : Nat) (hn : n ≤ 1000000) (w : World) :
    Calls Tryd.prog 131 #[.slice none 0 0, .int .i64 n] w fun e w' => ∃ v, e = .returned v ∧ Kd.R k36 36 w' w.heap.size (fun _ => True) v [] ∧ Below w.heap.size w w' := by
  by_cases h0 : n = 0
  · subst h0
    go_enter Tryd.func131, Tryd.ntmps131
    go_wp2
    go_ret
    exact ⟨_, rfl, Kd.R_nil _ _ _ _ _, Below.refl _ _⟩
  · have hp : decide (0 < (n : Int)) = true := decide_eq_true (by omega)
    have hq : decide ((n : Int) < 0) = false := decide_eq_false (by omega)
    go_enter Tryd.func131, Tryd.ntmps131
    go_wp2_with (at_builtin; refine Kd.R_append_zeros k36 w.heap.size rfl _ _ 22 3 36 (.agg #[(.int .i64 0), (.int .i64 0), (.int .i64 0), (.int .i64 0)]) 32 rfl Tryd.underlying22 Tryd.underlying3 infoE76 rfl (by decide) (by decide) (.slice none 0 0) [] z36 (n : Int) (fun _ => True) rfl rfl (k36_mkM _ _ _ z36) (fun _ _ => trivial) (Kd.R_nil _ _ _ _ _) (by omega) (Below.refl _ _) (Nat.le_refl _) (by simp; omega) ?_; intro v1 w1 hR hb hg hat; obtain ⟨A, c, rfl⟩ := Kd.R_slice hR)
    go_ret
    refine ⟨_, rfl, ?_, hb⟩
    simpa using Kd.R_take (m := 0) hR (by omega)
/-- A row's element that is itself a row. -/
theorem at_catE {w : World} {A : Option Addr} {n : Nat} {xs : List (List S36)} (h : Kd.C (Kd.slice 36 k36) w A n xs) (i : Nat) (h1 : i < n) : ∃ ad A0 c0 y, Hid (y = xs.getD i []) ∧ A = some ad ∧ w.cell? (ad.add i) = some (.slice A0 y.length c0) ∧ y.length ≤ c0 ∧ Hid (k36.C w A0 y.length y) := by
  obtain ⟨ad, c, e, _, hK, hc0⟩ := Kd.C_get h ([] : List S36) (i : Int) (by omega) (by omega)
  have hc : ∀ j u, c[j]? = some u → w.cell? (ad.add ((i : Int).toNat * 1 + j)) = some u := hc0
  obtain ⟨A0, c0, rfl, l0, g0⟩ := hK
  exact ⟨ad, A0, c0, _, Lib.hid rfl, e, by have hq := hc 0 _ rfl; rwa [Nat.mul_one, Nat.add_zero] at hq, l0, Lib.hid g0⟩
def slices_Concat_E.f (l0 : List (List S36)) : Option (List S36) := if l0.flatten.length ≤ 1000000 then some l0.flatten else none
def catRowE (xs : List (List S36)) (k : Nat) : List S36 := (xs.take k).flatten
def catLenE (xs : List (List S36)) (k : Nat) : Nat := (catRowE xs k).length
theorem cat_succE (xs : List (List S36)) (k : Nat) (h : k < xs.length) : catRowE xs (k + 1) = catRowE xs k ++ xs.getD k [] := by
  unfold catRowE
  rw [List.take_succ_eq_append_getElem h, List.flatten_append, List.getD_eq_getElem?_getD, List.getElem?_eq_getElem h]; simp
theorem cat_leE (xs : List (List S36)) (k : Nat) : catLenE xs k ≤ xs.flatten.length := by
  unfold catLenE catRowE
  conv => rhs; rw [← List.take_append_drop k xs, List.flatten_append]
  simp
theorem cat_stepE (xs : List (List S36)) (k : Nat) (h : k < xs.length) {y : List S36} (hy : y = xs.getD k []) : catLenE xs (k + 1) = catLenE xs k + y.length := by
  unfold catLenE; rw [cat_succE xs k h, List.length_append, hy]
set_option maxHeartbeats 1000000 in
theorem slices_Concat_E.calls (A0 : Option Addr) (c0 : Nat) (l0 : List (List S36)) (r : List S36) (w : World) (hr0 : Kd.C (Kd.slice 36 k36) w A0 l0.length l0) (hc0 : l0.length ≤ c0) (h : slices_Concat_E.f l0 = some r) :
    Calls Tryd.prog 105 #[.slice A0 l0.length c0] w fun e w' => ∃ v0_ : Value, e = .returned v0_ ∧ Kd.R k36 36 w' w.heap.size (fun _ => True) v0_ r ∧ Below w.heap.size w w' := by
  unfold slices_Concat_E.f at h
  split at h
  case isFalse => cases h
  rename_i hb
  obtain ⟨t, ht⟩ : ∃ t, t = l0.flatten.length := ⟨_, rfl⟩
  rw [← ht] at hb
  have HT := Lib.hid ht
  cases h
  have hmax : l0.length ≤ 9223372036854775807 := hr0.2.1
  have HR := Lib.hid hr0
  clear hr0 hc0 ht
  go_enter Tryd.func105, Tryd.ntmps105
  go_wp2
  go_loop [3, 11] (fun s i => ∃ k : Nat, k ≤ l0.length ∧ i = .int .i64 k ∧ s = .int .i64 (catLenE l0 k)) (fun _ i => l0.length - (intOf i).toNat)
  case atStart => exact ⟨0, Nat.zero_le _, rfl, by simp [catLenE, catRowE]⟩
  case round =>
    obtain ⟨k, hk, rfl, rfl⟩ := hrel
    have hfl := cat_leE l0 k
    rw [← HT.out] at hfl
    by_cases hlt : k < l0.length
    · obtain ⟨ad, A1, c1, y, hy, rfl, hcell, _, _⟩ := at_catE HR.out k hlt
      have hft := Lib.hid (cat_stepE l0 k hlt hy.out)
      have hfl2 := cat_leE l0 (k + 1)
      rw [hft.out, ← HT.out] at hfl2
      go_wp2
      go_round
      case rel => exact ⟨k + 1, by omega, by go_num, by rw [hft.out]; go_num⟩
      case measure => simp [intOf]; omega
    · obtain rfl : k = l0.length := by omega
      go_wp2_with (go_at_call 131; refine (grow_nilE _ (by omega) _).mono ?_; rintro e w1 ⟨v, rfl, hR, hB⟩)
      go_loopw [6, 27] (fun v i wr => ∃ k : Nat, k ≤ l0.length ∧ i = .int .i64 k ∧ Kd.R k36 36 wr w.heap.size (fun _ => True) v (catRowE l0 k) ∧ Below w.heap.size w wr) (fun _ i _ => l0.length - (intOf i).toNat)
      case atStart => exact ⟨0, Nat.zero_le _, rfl, by simpa [catRowE] using hR, hB⟩
      case round =>
        obtain ⟨k, hk, rfl, hRk, hBk⟩ := hrel
        have HRk := Lib.hid hRk
        have HBk := Lib.hid hBk
        clear hR hB
        by_cases hlt : k < l0.length
        · obtain ⟨ad, A1, c1, y, hy, rfl, hcell, hyc, hyC⟩ := at_catE (Kd.C_below HR.out HBk.out) k hlt
          have hfl2 := cat_leE l0 (k + 1)
          rw [cat_stepE l0 k hlt hy.out, ← HT.out] at hfl2
          have hfl3 : (catRowE l0 k).length + y.length ≤ t := hfl2
          clear hRk hBk hfl2
          go_wp2_with (at_builtin; refine Kd.R_append_rows k36 (Rr := k36.K wr) (w0 := w) (W := wr) w.heap.size rfl _ _ 22 36 (.agg #[(.int .i64 0), (.int .i64 0), (.int .i64 0), (.int .i64 0)]) 32 rfl Tryd.underlying22 infoE76 rfl (by decide) (by decide) _ (catRowE l0 k) y A1 y.length c1 (fun _ => True) (fun _ => False) rfl rfl HRk.out hyC.out (fun x cs hx => by obtain rfl := k36_open hx; exact k36_mkM _ _ _ x) (fun _ h => h.elim) (fun _ _ => trivial) HBk.out HBk.out.size (by omega) ?_; intro v1 w2 hR1 hB1 _ _)
          go_roundw
          case rel => exact ⟨k + 1, by omega, by go_num, by rw [cat_succE l0 k hlt, ← hy.out]; exact hR1, hB1⟩
          case measure => simp [intOf]; omega
        · obtain rfl : k = l0.length := by omega
          have hfull := Lib.hid (show catRowE l0 l0.length = l0.flatten by simp [catRowE])
          go_wp2
          go_ret
          exact ⟨_, rfl, by rw [← hfull.out]; exact HRk.out, HBk.out⟩

def eqE (x y : S36) : Bool := (x.f0 == y.f0) && ((x.f1 == y.f1) && ((x.f2 == y.f2) && (x.f3 == y.f3)))
theorem eqE_iff (x y : S36) : eqE x y = true ↔ x = y := by
  obtain ⟨a0, a1, a2, a3⟩ := x
  obtain ⟨b0, b1, b2, b3⟩ := y
  unfold eqE
  simp
theorem neq_run (x y : S36) (w : World) : (Go.binOp .neq 36 (.agg #[.int .i64 x.f0, .int .i64 x.f1, .int .i64 x.f2, .int .i64 x.f3]) (.agg #[.int .i64 y.f0, .int .i64 y.f1, .int .i64 y.f2, .int .i64 y.f3])).run Tryd.prog w = .ok (.bool (!eqE x y)) w := by
  have he : (Op.equal 36 (.agg #[.int .i64 x.f0, .int .i64 x.f1, .int .i64 x.f2, .int .i64 x.f3]) (.agg #[.int .i64 y.f0, .int .i64 y.f1, .int .i64 y.f2, .int .i64 y.f3])).run Tryd.prog w = .ok (eqE x y) w := by
    refine eqA_of Tryd.underlying36 (by kernel_rfl) ?_
    refine eqf_cons (by rfl) (by go_simp; rfl) (by go_simp; rfl) (by go_simp) ?_
    refine eqf_cons (by rfl) (by go_simp; rfl) (by go_simp; rfl) (by go_simp) ?_
    refine eqf_cons (by rfl) (by go_simp; rfl) (by go_simp; rfl) (by go_simp) ?_
    exact eqf_last (by rfl) (by go_simp; rfl) (by go_simp; rfl) (by go_simp)
  simp [Go.binOp, he, Result.andThen]
def eqL : List S36 → List S36 → Bool
  | [], [] => true
  | x :: s, y :: t => eqE x y && eqL s t
  | _, _ => false
theorem eqL_iff : ∀ s t : List S36, eqL s t = true ↔ s = t
  | [], [] => by simp [eqL]
  | [], _ :: _ => by simp [eqL]
  | _ :: _, [] => by simp [eqL]
  | x :: s, y :: t => by
    unfold eqL
    rw [Bool.and_eq_true, eqE_iff, eqL_iff s t]
    simp
theorem eqL_len {s t : List S36} (h : s.length ≠ t.length) : eqL s t = false := by
  cases he : eqL s t with
  | false => rfl
  | true => exact absurd (congrArg List.length ((eqL_iff s t).1 he)) h
theorem eqL_drop (s t : List S36) (k : Nat) (h1 : k < s.length) (h2 : k < t.length) : eqL (s.drop k) (t.drop k) = (eqE (rd_T36 s (k : Int)) (rd_T36 t (k : Int)) && eqL (s.drop (k + 1)) (t.drop (k + 1))) := by
  rw [drop_rd s k h1, drop_rd t k h2]
  rfl
set_option maxHeartbeats 1000000 in
set_option maxRecDepth 100000 in
theorem equalE (A B : Option Addr) (ca cb : Nat) (s t : List S36) (W : World) (hs : Kd.C k36 W A s.length s) (ht : Kd.C k36 W B t.length t) :
    Calls Tryd.prog 106 #[.slice A s.length ca, .slice B t.length cb] W fun e w' => e = .returned (.bool (eqL s t)) ∧ Below W.heap.size W w' := by
  have hm1 : s.length ≤ 9223372036854775807 := hs.2.1
  have hm2 : t.length ≤ 9223372036854775807 := ht.2.1
  have HS := Lib.hid hs
  have HT := Lib.hid ht
  clear hs ht
  by_cases hl : s.length = t.length
  · have hne : ((s.length : Int) != (t.length : Int)) = false := by rw [bne_eq_false_iff_eq]; omega
    obtain ⟨r, hr⟩ : ∃ r, r = eqL s t := ⟨_, rfl⟩
    rw [← hr]
    have HR := Lib.hid hr
    clear hr
    go_enter Tryd.func106, Tryd.ntmps106
    go_wp2
    go_loopw [13] (fun v13 wr => ∃ k : Nat, k ≤ s.length ∧ v13 = .int .i64 (k : Int) ∧ Hid (r = eqL (s.drop k) (t.drop k)) ∧ Hid (Below W.heap.size W wr)) (fun v13 _ => s.length - (intOf v13).toNat)
    case atStart => exact ⟨0, Nat.zero_le _, rfl, HR, Lib.hid (Below.refl _ _)⟩
    case round =>
      obtain ⟨k, hk, rfl, hI, HB⟩ := hrel
      by_cases hlt : k < s.length
      · obtain ⟨ad1, rfl, hx0, hx1, hx2, hx3⟩ := at_T36 (Kd.C_below HS.out HB.out) (k : Int) (by omega) (by omega)
        obtain ⟨ad2, rfl, hy0, hy1, hy2, hy3⟩ := at_T36 (Kd.C_below HT.out HB.out) (k : Int) (by omega) (by omega)
        have hd := eqL_drop s t k hlt (by omega)
        obtain ⟨x, hx⟩ : ∃ x, x = rd_T36 s (k : Int) := ⟨_, rfl⟩
        obtain ⟨y, hy⟩ : ∃ y, y = rd_T36 t (k : Int) := ⟨_, rfl⟩
        rw [← hx] at hx0 hx1 hx2 hx3 hd
        rw [← hy] at hy0 hy1 hy2 hy3 hd
        rw [Int.toNat_natCast] at hx0 hx1 hx2 hx3 hy0 hy1 hy2 hy3
        have hlt2 : (k : Int) < (t.length : Int) := by omega
        have hI2 := hI.out
        rw [hd] at hI2
        have hn := neq_run x y
        clear hx hy hd hI
        cases he : eqE x y with
        | true =>
          rw [he] at hn hI2
          rw [Bool.true_and] at hI2
          have HI2 := Lib.hid hI2
          clear hI2 he
          go_upto_region 6 with (fail)
          go_quiet (fail)
          go_wp2
          go_roundw
          case rel => exact ⟨k + 1, by omega, by go_num, HI2, Lib.hid (by first | exact HB.out | exact below_drew HB.out | exact pw_below_drewN HB.out _)⟩
          case measure => simp [intOf]; omega
        | false =>
          rw [he] at hn hI2
          rw [Bool.false_and] at hI2
          subst hI2
          clear he
          go_upto_region 6 with (fail)
          go_quiet (fail)
          go_wp2
          go_ret
          exact ⟨rfl, by first | exact HB.out | exact below_drew HB.out | exact pw_below_drewN HB.out _⟩
      · obtain rfl : k = s.length := by omega
        have e1 := hI.out
        rw [List.drop_length, hl, List.drop_length] at e1
        have e2 : r = true := e1
        clear hI e1
        go_wp2
        go_ret
        exact ⟨by rw [e2]; rfl, HB.out⟩
  · have hne : ((s.length : Int) != (t.length : Int)) = true := by rw [bne_iff_ne]; omega
    have HE := Lib.hid (eqL_len hl)
    go_enter Tryd.func106, Tryd.ntmps106
    go_wp2
    go_ret
    exact ⟨by rw [HE.out]; rfl, Below.refl _ _⟩
/-- Two rows of events, in a row. -/
theorem pairC {W : World} {g : Nat} {A B : Option Addr} {ca cb : Nat} {a b : List S36} (h : W.heap[g]? = some (.cells #[.slice A a.length ca, .slice B b.length cb] 22 (0, 0))) (ha : Kd.C k36 W A a.length a) (hca : a.length ≤ ca) (hb : Kd.C k36 W B b.length b) (hcb : b.length ≤ cb) : Kd.C (Kd.slice 36 k36) W (some ⟨g, 0, none⟩) [a, b].length [a, b] := by
  refine ⟨rfl, by show 2 ≤ 9223372036854775807; omega, fun _ => ⟨_, rfl, fun j p hj => ?_⟩⟩
  match j, hj with
  | 0, hj =>
    cases hj
    refine ⟨[.slice A a.length ca], rfl, ⟨A, ca, rfl, hca, ha⟩, fun i u hi => ?_⟩
    match i, hi with
    | 0, hi =>
      cases hi
      rw [show (0 * (Kd.slice 36 k36).sz + 0) = 0 from rfl, add_plain]
      exact (blk_cell h 0).trans rfl
  | 1, hj =>
    cases hj
    refine ⟨[.slice B b.length cb], rfl, ⟨B, cb, rfl, hcb, hb⟩, fun i u hi => ?_⟩
    match i, hi with
    | 0, hi =>
      cases hi
      rw [show (1 * (Kd.slice 36 k36).sz + 0) = 1 from rfl, add_plain]
      exact (blk_cell h 1).trans rfl
def alikeB (a b : List S36) : Bool := (a ++ b).all fun e => eqL (a.filter (keepE e.f1)) (b.filter (keepE e.f1))
def prefix_Alike.f (a b : List S36) : Option Bool := if a.length ≤ 1000 ∧ b.length ≤ 1000 then some (alikeB a b) else none
set_option maxHeartbeats 4000000 in
set_option maxRecDepth 100000 in
theorem prefix_Alike.calls (A : Option Addr) (ca : Nat) (la : List S36) (B : Option Addr) (cb : Nat) (lb : List S36) (r : Bool) (W : World) (ha : Kd.C k36 W A la.length la) (hca : la.length ≤ ca) (hb : Kd.C k36 W B lb.length lb) (hcb : lb.length ≤ cb) (h : prefix_Alike.f la lb = some r) :
    Calls Tryd.prog 55 #[.slice A la.length ca, .slice B lb.length cb] W fun e w' => e = .returned (.bool r) ∧ Below W.heap.size W w' := by
  unfold prefix_Alike.f at h
  split at h
  case isFalse => cases h
  rename_i hl
  cases h
  obtain ⟨r, hr⟩ : ∃ r, r = alikeB la lb := ⟨_, rfl⟩
  rw [← hr]
  obtain ⟨xs, hxs⟩ : ∃ xs, xs = la ++ lb := ⟨_, rfl⟩
  have hxl : xs.length ≤ 2000 := by rw [hxs, List.length_append]; omega
  have hr2 : r = xs.all (fun e => eqL (la.filter (keepE e.f1)) (lb.filter (keepE e.f1))) := by rw [hr, hxs]; rfl
  have hcat : slices_Concat_E.f [la, lb] = some xs := by
    unfold slices_Concat_E.f
    rw [if_pos (by simp; omega)]
    simp [hxs]
  have HA := Lib.hid ha
  have HBB := Lib.hid hb
  have HCA := Lib.hid hca
  have HCB := Lib.hid hcb
  have HCAT := Lib.hid hcat
  have HR := Lib.hid hr2
  have HFA : Hid (∀ tx, prefix_Of.f la tx = some (la.filter (keepE tx))) := Lib.hid (fun tx => by unfold prefix_Of.f; rw [if_pos (by omega)])
  have HFB : Hid (∀ tx, prefix_Of.f lb tx = some (lb.filter (keepE tx))) := Lib.hid (fun tx => by unfold prefix_Of.f; rw [if_pos (by omega)])
  clear ha hb hca hcb hcat hr hr2 hxs hl
  go_enter Tryd.func55, Tryd.ntmps55
  go_wp2_with (first
    | (go_at_call 105; refine (slices_Concat_E.calls (some ⟨W.heap.size, 0, none⟩) 2 [la, lb] xs _ (pairC (heap_alloc_new W _) (Kd.C_alloc HA.out _) HCA.out (Kd.C_alloc HBB.out _) HCB.out) (Nat.le_refl _) HCAT.out).mono ?_; rintro x w2 ⟨v2, rfl, hr2, hb2⟩; have HR2 := Lib.hid hr2; have HB2 := Lib.hid (((Below.refl W.heap.size W).alloc (Nat.le_refl _) _).trans (hb2.mono (by show W.heap.size ≤ (W.heap.push _).size; simp))); obtain ⟨A2, c2, rfl⟩ := Kd.R_slice hr2; clear hr2 hb2))
  go_loopw [12] (fun v12 wr => ∃ k : Nat, k ≤ xs.length ∧ v12 = .int .i64 (k : Int) ∧ Hid (r = (xs.drop k).all (fun e => eqL (la.filter (keepE e.f1)) (lb.filter (keepE e.f1)))) ∧ Hid (Below w2.heap.size w2 wr)) (fun v12 _ => xs.length - (intOf v12).toNat)
  case atStart => exact ⟨0, Nat.zero_le _, rfl, HR, Lib.hid (Below.refl _ _)⟩
  case round =>
    obtain ⟨k, hk, rfl, hI, HBW⟩ := hrel
    by_cases hlt : k < xs.length
    · obtain ⟨ad1, rfl, hx0, hx1, hx2, hx3⟩ := at_T36 (Kd.C_below (Kd.R_reads' HR2.out).2.2 HBW.out) (k : Int) (by omega) (by omega)
      have hd := drop_rd xs k hlt
      obtain ⟨ev, hev⟩ : ∃ ev, ev = rd_T36 xs (k : Int) := ⟨_, rfl⟩
      rw [← hev] at hx0 hx1 hx2 hx3 hd
      rw [Int.toNat_natCast] at hx0 hx1 hx2 hx3
      have hI2 := hI.out
      rw [hd, List.all_cons] at hI2
      obtain ⟨f0, f1, f2, f3⟩ := ev
      dsimp only at hx0 hx1 hx2 hx3 hI2
      have HI2 := Lib.hid hI2
      clear hI2 hd hev hI
      go_upto_region 4 with (first
        | ((with_reducible refine gate_dst (N := 6) rfl ?_); refine box_event ?hg (N := 6) ?hd (cs := #[.int .i64 0, .int .i64 0, .int .i64 0, .int .i64 0]) (t := 36) ?hr ?_; (case hd => rfl); (case hg => rfl); (case hr => first | (go_simp; done) | (go_simp; rfl)); intro g6 hg6 w4 hbox hb; have HX7 := Lib.hid hbox; have HB4 := Lib.hid hb; have HG6 := Lib.hid hg6; have z0 : w4.cell? ⟨g6, 0, none⟩ = some (.int .i64 0) := (blk_cell hbox 0).trans rfl; have z1 : w4.cell? ⟨g6, 1, none⟩ = some (.int .i64 0) := (blk_cell hbox 1).trans rfl; have z2 : w4.cell? ⟨g6, 2, none⟩ = some (.int .i64 0) := (blk_cell hbox 2).trans rfl; have z3 : w4.cell? ⟨g6, 3, none⟩ = some (.int .i64 0) := (blk_cell hbox 3).trans rfl; have y0 := blk_frozen hbox 0; have y1 := blk_frozen hbox 1; have y2 := blk_frozen hbox 2; have y3 := blk_frozen hbox 3; clear hbox hb hg6))
      obtain ⟨W5, hW5⟩ : ∃ W5, W5 = (((w4.setCell ⟨g6, 0, none⟩ (.int .i64 f0)).setCell ⟨g6, 1, none⟩ (.int .i64 f1)).setCell ⟨g6, 2, none⟩ (.int .i64 f2)).setCell ⟨g6, 3, none⟩ (.int .i64 f3) := ⟨_, rfl⟩
      have HX5 : Hid (W5.heap[g6]? = some (.cells #[.int .i64 f0, .int .i64 f1, .int .i64 f2, .int .i64 f3] 36 (0, 0))) := Lib.hid (by
        rw [hW5]
        have := blk_set (blk_set (blk_set (blk_set HX7.out 0 (.int .i64 f0)) 1 (.int .i64 f1)) 2 (.int .i64 f2)) 3 (.int .i64 f3)
        simpa using this)
      have HB5 : Hid (Below w2.heap.size w2 W5) := Lib.hid (by
        have hle : wr.heap.size ≤ g6 := by rw [HG6.out]; exact Nat.le_refl _
        rw [hW5]
        exact HBW.out.trans (((((HB4.out.setCell (p := ⟨g6, 0, none⟩) hle _).setCell (p := ⟨g6, 1, none⟩) hle _).setCell (p := ⟨g6, 2, none⟩) hle _).setCell (p := ⟨g6, 3, none⟩) hle _).mono HBW.out.size))
      rw [← hW5]
      have u0 : W5.cell? ⟨g6, 0, none⟩ = some (.int .i64 f0) := (blk_cell HX5.out 0).trans rfl
      have u1 : W5.cell? ⟨g6, 1, none⟩ = some (.int .i64 f1) := (blk_cell HX5.out 1).trans rfl
      have u2 : W5.cell? ⟨g6, 2, none⟩ = some (.int .i64 f2) := (blk_cell HX5.out 2).trans rfl
      have u3 : W5.cell? ⟨g6, 3, none⟩ = some (.int .i64 f3) := (blk_cell HX5.out 3).trans rfl
      clear hW5 HX7 HB4 z0 z1 z2 z3 y0 y1 y2 y3 hx0 hx1 hx2 hx3
      obtain ⟨W7, hW7⟩ : ∃ W7, W7 = W5.drew := ⟨_, rfl⟩
      have HB7 : Hid (Below W.heap.size W W7) := Lib.hid (by rw [hW7]; exact below_drew (HB2.out.trans (HB5.out.mono HB2.out.size)))
      have HB72 : Hid (Below w2.heap.size w2 W7) := Lib.hid (by rw [hW7]; exact below_drew HB5.out)
      refine start_ (n := 10) (S := fun w' => w'.cell? ⟨g6, 1, none⟩ = some (.int .i64 f1)) (ds := []) #[false, false, false, false, false, false, false, false, false, false] (by kernel_rfl) rfl rfl (u1) (fun hHeld => ?_)
      rw [← hW7] at hHeld ⊢
      clear hW7 u0 u1 u2 u3
      refine pure_ (i := 0) (N := some 16) (v := ?_) (a' := ?_) #[true, false, false, false, false, false, false, false, false, false] rfl rfl (by kernel_rfl) (fun _ _ _ h => h) (Or.inl ⟨by rfl, ?_⟩) ?_ ?_
      rotate_left
      · intro w'
        go_simp
        with_reducible rfl
      rotate_left
      · simp only [Act.put, List.setIfInBounds_toArray, List.set_cons_zero, List.set_cons_succ, i64_w, i32_w]
        rfl
      refine pure_ (i := 1) (N := some 17) (v := ?_) (a' := ?_) #[true, true, false, false, false, false, false, false, false, false] rfl rfl (by kernel_rfl) (fun _ _ _ h => h) (Or.inl ⟨by rfl, ?_⟩) ?_ ?_
      rotate_left
      · intro w'
        go_simp
        with_reducible rfl
      rotate_left
      · simp only [Act.put, List.setIfInBounds_toArray, List.set_cons_zero, List.set_cons_succ, i64_w, i32_w]
        rfl
      refine pure_ (i := 4) (N := some 20) (v := ?_) (a' := ?_) #[true, true, false, false, true, false, false, false, false, false] rfl rfl (by kernel_rfl) (fun _ _ _ h => h) (Or.inl ⟨by rfl, ?_⟩) ?_ ?_
      rotate_left
      · intro w'
        go_simp
        with_reducible rfl
      rotate_left
      · simp only [Act.put, List.setIfInBounds_toArray, List.set_cons_zero, List.set_cons_succ, i64_w, i32_w]
        rfl
      refine pure_ (i := 5) (N := some 21) (v := ?_) (a' := ?_) #[true, true, false, false, true, true, false, false, false, false] rfl rfl (by kernel_rfl) (fun _ _ _ h => h) (Or.inl ⟨by rfl, ?_⟩) ?_ ?_
      rotate_left
      · intro w'
        go_simp
        with_reducible rfl
      rotate_left
      · simp only [Act.put, List.setIfInBounds_toArray, List.set_cons_zero, List.set_cons_succ, i64_w, i32_w]
        rfl
      refine take_ (i := 2) (N := some 18) (v := ?_) (a' := ?_) #[true, true, true, false, true, true, false, false, false, false] rfl rfl (by kernel_rfl) (fun _ _ _ h => h) (Or.inl ⟨by rfl, ?_⟩) hHeld ?_ ?_
      rotate_left
      · intro w' s0
        go_simp
        with_reducible rfl
      rotate_left
      · simp only [Act.put, List.setIfInBounds_toArray, List.set_cons_zero, List.set_cons_succ, i64_w, i32_w]
        rfl
      refine take_ (i := 6) (N := some 22) (v := ?_) (a' := ?_) #[true, true, true, false, true, true, true, false, false, false] rfl rfl (by kernel_rfl) (fun _ _ _ h => h) (Or.inl ⟨by rfl, ?_⟩) hHeld ?_ ?_
      rotate_left
      · intro w' s0
        go_simp
        with_reducible rfl
      rotate_left
      · simp only [Act.put, List.setIfInBounds_toArray, List.set_cons_zero, List.set_cons_succ, i64_w, i32_w]
        rfl
      refine one_ (i := 3) (N := some 19) #[true, true, true, true, true, true, true, false, false, false] rfl rfl (by kernel_rfl) (by decide) (fun K hK => ?_)
      refine goes_ Tryd.func58 (by kernel_rfl) rfl #[.slice A la.length ca, .int .i64 f1] (by rfl) rfl rfl (by simp only [List.map_toArray, List.map_cons, List.map_nil]; rfl) ?_
      with_reducible refine ((prefix_Of.calls A ca la f1 _ W7 (Kd.C_below HA.out HB7.out) HCA.out (HFA.out f1))).mono ?_
      rintro x w8 ⟨v8, rfl, hr8, hb8⟩
      refine ⟨_, rfl, ?_⟩
      have HR8 := Lib.hid hr8
      have HB8 := Lib.hid hb8
      refine hK.out _ _ ((pw_cell_below hb8 hHeld)) (fun hHeld => ?_)
      clear hK K
      refine norm_ (a' := ?_) ?_ ?_
      rotate_left
      · show Act.put _ (some 19) _ = _
        simp only [Act.put, List.setIfInBounds_toArray, List.set_cons_zero, List.set_cons_succ, i64_w, i32_w]
        rfl
      refine one_ (i := 7) (N := some 23) #[true, true, true, true, true, true, true, true, false, false] rfl rfl (by kernel_rfl) (by decide) (fun K hK => ?_)
      refine goes_ Tryd.func58 (by kernel_rfl) rfl #[.slice B lb.length cb, .int .i64 f1] (by rfl) rfl rfl (by simp only [List.map_toArray, List.map_cons, List.map_nil]; rfl) ?_
      with_reducible refine ((prefix_Of.calls B cb lb f1 _ w8 (Kd.C_below HBB.out (HB7.out.trans (HB8.out.mono HB7.out.size))) HCB.out (HFB.out f1))).mono ?_
      rintro x w9 ⟨v9, rfl, hr9, hb9⟩
      refine ⟨_, rfl, ?_⟩
      obtain ⟨A9, c9, rfl⟩ := Kd.R_slice hr9
      obtain ⟨A8, c8, rfl⟩ := Kd.R_slice HR8.out
      have HR9 := Lib.hid hr9
      have HB9 := Lib.hid hb9
      refine hK.out _ _ ((pw_cell_below hb9 hHeld)) (fun hHeld => ?_)
      clear hK K
      refine norm_ (a' := ?_) ?_ ?_
      rotate_left
      · show Act.put _ (some 23) _ = _
        simp only [Act.put, List.setIfInBounds_toArray, List.set_cons_zero, List.set_cons_succ, i64_w, i32_w]
        rfl
      refine one_ (i := 8) (N := some 24) #[true, true, true, true, true, true, true, true, true, false] rfl rfl (by kernel_rfl) (by decide) (fun K hK => ?_)
      refine goes_ Tryd.func106 (by kernel_rfl) rfl #[.slice A8 (la.filter (keepE f1)).length c8, .slice A9 (lb.filter (keepE f1)).length c9] (by rfl) rfl rfl (by simp only [List.map_toArray, List.map_cons, List.map_nil]; rfl) ?_
      with_reducible refine ((equalE A8 A9 c8 c9 _ _ w9 (Kd.R_reads' (Kd.R_below HR8.out HB9.out)).2.2 (Kd.R_reads' HR9.out).2.2)).mono ?_
      rintro x w10 ⟨rfl, hb10⟩
      refine ⟨_, rfl, ?_⟩
      have HB10 := Lib.hid hb10
      refine hK.out _ _ ((pw_cell_below hb10 hHeld)) (fun hHeld => ?_)
      clear hK K
      refine norm_ (a' := ?_) ?_ ?_
      rotate_left
      · show Act.put _ (some 24) _ = _
        simp only [Act.put, List.setIfInBounds_toArray, List.set_cons_zero, List.set_cons_succ, i64_w, i32_w]
        rfl
      refine pure_ (i := 9) (N := some 25) (v := ?_) (a' := ?_) #[true, true, true, true, true, true, true, true, true, true] rfl rfl (by kernel_rfl) (fun _ _ _ h => h) (Or.inl ⟨by rfl, ?_⟩) ?_ ?_
      rotate_left
      · intro w'
        go_simp
        with_reducible rfl
      rotate_left
      · simp only [Act.put, List.setIfInBounds_toArray, List.set_cons_zero, List.set_cons_succ, i64_w, i32_w]
        rfl
      refine done_ (by kernel_rfl) ?_

      have HB102 : Hid (Below w2.heap.size w2 w10) := Lib.hid (((HB72.out.trans (HB8.out.mono HB72.out.size)).trans (HB9.out.mono (Nat.le_trans HB72.out.size HB8.out.size))).trans (HB10.out.mono (Nat.le_trans HB72.out.size (Nat.le_trans HB8.out.size HB9.out.size))))
      cases hq : eqL (la.filter (keepE f1)) (lb.filter (keepE f1)) with
      | true =>
        have hI3 := HI2.out
        rw [hq, Bool.true_and] at hI3
        have HI3 := Lib.hid hI3
        clear hI3 hHeld
        go_wp2
        go_roundw
        case rel => exact ⟨k + 1, by omega, by go_num, HI3, HB102⟩
        case measure => simp [intOf]; omega
      | false =>
        have hI3 := HI2.out
        rw [hq, Bool.false_and] at hI3
        subst hI3
        clear hHeld
        go_wp2
        go_ret
        exact ⟨rfl, HB2.out.trans (HB102.out.mono HB2.out.size)⟩
    · obtain rfl : k = xs.length := by omega
      have e1 := hI.out
      rw [List.drop_length] at e1
      have e2 : r = true := e1
      clear hI e1
      go_wp2
      go_ret
      exact ⟨by rw [e2]; rfl, HB2.out.trans (HBW.out.mono HB2.out.size)⟩
end Go.Proofs.YtkjkceeopkfniaaDoor.P

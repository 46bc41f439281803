/- ExtendRises' walk, ours: along the ways on which it answers true. -/
import Derived.Test.YtimbamimabdmcaaGExt
import Derived.Test.YtimbamimabdmcaaP5
import Derived.Test.YtimbamimabdmcaaGClone
import Derived.Test.YtimbamimabdmcaaGMoreWalk
import Derived.Test.YtimbamimabdmcaaP7
import Derived.Test.YtimbamimabdmcaaUKeeps
import Derived.Deep.RegionWith
import Derived.Deep.DeepCutAuto
namespace Go.Proofs.Ytimbamimabdmcaa.U
set_option linter.unusedVariables false
set_option linter.unusedSimpArgs false
open Go Go.RowKit Go.Proofs.Ytimbamimabdmcaa.P Go.Proofs.YtimbamimabdmcaaW.PrintWords Go.Proofs.YtimbamimabdmcaaW.PrintLast Go.Proofs.YtimbamimabdmcaaW.PrintMore
theorem all_402 : extend_All.f [4, 0, 0] = some ([[0, 1, 2], [0, 2, 1], [1, 0, 2]], 0) := by decide +kernel
theorem alive11 : Ev (fun k => recantlaw11_alive.f k) true := by
  obtain ⟨K, e⟩ := ints_f [1, 0, 2] [1, 0, 2] (by decide)
  refine ⟨K, fun k hk => ?_⟩
  simp only [recantlaw11_alive.f]
  rw [all_402, Option.bind_some, if_pos rfl, if_pos (by decide), if_pos (by decide)]
  have := e k hk
  dsimp only at this ⊢
  rw [show rd_L3 [[0, 1, 2], [0, 2, 1], [1, 0, 2]] 2 = ([1, 0, 2] : List Int) from rfl, this]; rfl
end Go.Proofs.Ytimbamimabdmcaa.U
namespace Go.Proofs.Ytimbamimabdmcaa.P
set_option linter.unusedVariables false
set_option linter.unusedSimpArgs false
open Go Go.RowKit Go.Proofs.YtimbamimabdmcaaW.PrintWords Go.Proofs.YtimbamimabdmcaaW.PrintLast Go.Proofs.YtimbamimabdmcaaW.PrintMore

/-- The places of a row as bits. -/
def seenF (l : List Int) : Int := l.foldl (fun s x => orBit s x.toNat) 0
theorem seen_snoc (l : List Int) (x : Int) : seenF (l ++ [x]) = orBit (seenF l) x.toNat := by unfold seenF; rw [List.foldl_append]; rfl
def factN : Nat → Nat
  | 0 => 1
  | k + 1 => factN k * (k + 1)
theorem fact_le : ∀ k : Fin 7, factN k.val ≤ 720 := by decide
def looseB (l : List Int) : Bool := l.all fun x => x == 0
theorem loose_snoc (l : List Int) (x : Int) : looseB (l ++ [x]) = (looseB l && (x == 0)) := by unfold looseB; rw [List.all_append]; simp
theorem take_snocI (l : List Int) (k : Nat) (h : k < l.length) : l.take (k + 1) = l.take k ++ [rd l (k : Int)] := by
  rw [List.take_succ_eq_append_getElem h]
  have := Go.Proofs.Ytimbamimabdmcaa.U.rd_some h
  rw [List.getElem?_eq_getElem h] at this
  rw [Option.some.inj this]
/-- What must hold of each row. -/
structure RowOK (a : List Int) (L : List (List Int)) (p : Nat) : Prop where
  len : (L.getD p []).length = a.length
  inn : ∀ x ∈ L.getD p [], 0 ≤ x ∧ x < (a.length : Int)
  seen : ∀ j, j < (L.getD p []).length → bits BinOp.and IntKind.u32 (orBit (rd a (rd (L.getD p []) (j : Int))) (rd (L.getD p []) (j : Int)).toNat) (seenF ((L.getD p []).take j)) = 0
  rise : 0 < p → ∃ c K, slices_Compare_int_int.f K (L.getD (p - 1) []) (L.getD p []) = some c ∧ c < 0
/-- What must hold for the law to answer true. -/
def CRF (a : List Int) (i k : Int) : Prop :=
  ∃ L e, extend_All.f a = some (L, e) ∧
    ((e ≠ 0 ∧ L = []) ∨
     (e = 0 ∧ 0 < L.length ∧ L.length ≤ 1000000 ∧ a.length ≤ 6 ∧ (∀ p, p < L.length → RowOK a L p) ∧ (looseB a = true → L.length = factN a.length) ∧
       (a.length = 0 ∨ ∃ n f, extend_Count.f (orAt a i k) = some (n, f) ∧ (f = 8 ∨ (f = 0 ∧ 1 ≤ n ∧ n ≤ (L.length : Int))))))
def recantlaw11_ExtendRises.Pure : Prop := ∀ (l0 : List Int) (a1 a2 : Int), l0.length ≤ maxLen → l0.length * 4 ≤ 140737488351232 → (∀ x ∈ l0, (Lit.int .u32 x).wf = true) → (Lit.int .i64 a1).wf = true → (Lit.int .i64 a2).wf = true →
  CRF (l0.take (mn (l0.length : Int) 8).toNat) (idxM a1 ((l0.take (mn (l0.length : Int) 8).toNat).length : Int)) (idxM a2 ((l0.take (mn (l0.length : Int) 8).toNat).length : Int))
set_option maxRecDepth 100000 in
set_option maxHeartbeats 2000000 in
theorem rise_in (A0 : Option Addr) (c0 : Nat) (l0 : List Int) (i0 k0 : Int) (w : World) (hr0 : Kd.C (Kd.int .u32) w A0 l0.length l0) (hc0 : l0.length ≤ c0) (hi0 : (Lit.int .i64 i0).wf = true) (hk0 : (Lit.int .i64 k0).wf = true)
    (h : CRF (l0.take (mn (l0.length : Int) 8).toNat) (idxM i0 ((l0.take (mn (l0.length : Int) 8).toNat).length : Int)) (idxM k0 ((l0.take (mn (l0.length : Int) 8).toNat).length : Int))) :
    Calls Try.prog 6 #[.slice A0 l0.length c0, .int .i64 i0, .int .i64 k0] w fun e w' => e = .returned (.bool true) ∧ Below w.heap.size w w' := by
  obtain ⟨Ka, ea⟩ := Go.Proofs.Ytimbamimabdmcaa.U.alive11
  have hal := fun W => Lib.hid (recantlaw11_alive.calls Ka true W (ea Ka (Nat.le_refl _)))
  have t1 : 0 ≤ mn (l0.length : Int) 8 := by unfold mn; split <;> omega
  have t2 : mn (l0.length : Int) 8 ≤ (l0.length : Int) := by unfold mn; split <;> omega
  have t3 : mn (l0.length : Int) 8 ≤ 8 := by unfold mn; split <;> omega
  obtain ⟨n, hn⟩ := Int.eq_ofNat_of_zero_le t1
  obtain ⟨a, ha⟩ : ∃ a, a = l0.take (mn (l0.length : Int) 8).toNat := ⟨_, rfl⟩
  rw [← ha] at h
  have hal2 : a.length = n := by rw [ha, hn, Int.toNat_natCast, List.length_take]; omega
  have hra : Kd.C (Kd.int .u32) w A0 a.length a := by
    rw [ha, hn, Int.toNat_natCast]
    exact Kd.C_take (m := n) hr0 (by omega)
  have hca : a.length ≤ c0 := by omega
  obtain ⟨L, e, hle, hway⟩ := h
  have hL1 := extend_All.calls A0 c0 a L e w hra hca hle
  have hau : ∀ x ∈ a, 0 ≤ x ∧ x < 4294967296 := by
    unfold extend_All.f at hle
    split at hle
    · rename_i h; exact h
    · cases hle
  have HAU := Lib.hid hau
  rw [hal2] at hway hL1
  have hlen8 : n ≤ 8 := by omega
  have hnl : (n : Int) ≤ l0.length := by omega
  have HL1 := Lib.hid hL1
  have HRA := Lib.hid hra
  have hmn : (if (8 : Int) < (l0.length : Int) then (8 : Int) else (l0.length : Int)) = (n : Int) := hn
  have HAL := Lib.hid hal2
  have HA := Lib.hid ha
  clear hL1 hra hn hle t1 t2 t3 ea ha hal2 hau
  rcases hway with ⟨hen, hl⟩ | ⟨he0, hL0, hLm, hn6, hrow, hloose, hway⟩
  · subst hl
    have hb : (e != 0) = true := by simpa using hen
    clear hen
    go_enter Try.func6, Try.ntmps6
    go_wp2_with (first
      | (go_at_call 18; refine HL1.out.mono ?_; rintro e w1 ⟨v, rfl, hR, hB⟩; obtain ⟨Ao, co, rfl⟩ := Kd.N_slice hR; have HB := Lib.hid hB; clear hR hB)
      | (go_at_call 22; refine (hal _).out.mono ?_; rintro e w2 ⟨rfl, hB2⟩; have HB2 := Lib.hid (HB.out.trans (hB2.mono HB.out.size)); clear hB2))
    go_ret
    exact ⟨rfl, HB2.out⟩
  · subst he0
    have hL1 : ((L.length : Int) == 0) = false := beq_eq_false_iff_ne.2 (by omega)
    have HROW := Lib.hid hrow
    have HLO := Lib.hid hloose
    have HW := Lib.hid hway
    have HL0 := Lib.hid hL0
    have HN6 := Lib.hid hn6
    have HLM := Lib.hid hLm
    clear hrow hloose hway hL0 hn6 hLm
    go_enter Try.func6, Try.ntmps6
    go_upto_region 7 with (first
      | (go_at_call 18; refine HL1.out.mono ?_; clear HL1; rintro e w1 ⟨v, rfl, hR, hB⟩; obtain ⟨Ao, co, rfl⟩ := Kd.N_slice hR; have HR := Lib.hid hR; have HB := Lib.hid hB; clear hR hB)
      | (go_at_call 22; refine (hal _).out.mono ?_; rintro e w2 ⟨rfl, hB2⟩; have HBa := Lib.hid hB2; clear hB2))
    have HR2 := Lib.hid (Kd.N_below HR.out HBa.out)
    have HB2 := Lib.hid (HB.out.trans (HBa.out.mono HB.out.size))
    clear HR HB HBa
    go_wp2
    go_loopw [48] (fun v48 wr => ∃ p : Nat, p ≤ L.length ∧ v48 = .int .i64 (p : Int) ∧ Hid (Kd.N (Kd.slice 3 (Kd.int .i64)) 23 wr w.heap.size (fun k_ => (w.heap.size ≤ k_)) (.slice Ao L.length co) L) ∧ Hid (Below w.heap.size w wr)) (fun v48 _ => L.length - (intOf v48).toNat)
    case atStart => exact ⟨0, Nat.zero_le _, rfl, HR2, HB2⟩
    case round =>
      clear HR2 HB2
      obtain ⟨p, hp, rfl, HRp, HBp⟩ := hrel
      have hLm := HLM.out
      by_cases hlt : p < L.length
      · obtain ⟨adL, A1, c1, hAo, hcellL, hl1, hC1⟩ := at_L3 (Kd.N_reads' HRp.out).2.2 (p : Int) (by omega) (by omega)
        subst hAo
        have hok := HROW.out p hlt
        obtain ⟨row, hrw⟩ : ∃ row, row = L.getD p [] := ⟨_, rfl⟩
        have hrd : rd_L3 L (p : Int) = row := by rw [hrw]; unfold rd_L3; rw [Int.toNat_natCast]
        rw [hrd, Int.toNat_natCast] at hcellL
        rw [hrd] at hl1 hC1
        obtain ⟨ok1, ok2, ok3, ok4⟩ := hok
        rw [← hrw] at ok1 ok2 ok3 ok4
        have H2 := Lib.hid ok2
        have H3 := Lib.hid ok3
        have H4 := Lib.hid ok4
        have H1 := Lib.hid ok1
        have HC1 := Lib.hid hC1
        clear hrd hrw ok1 ok2 ok3 ok4 hC1
        go_wp2
        obtain ⟨W1, hW1⟩ : ∃ W1, W1 = wr := ⟨_, rfl⟩
        have HBW : Hid (Below W1.heap.size W1 wr) := Lib.hid (by rw [hW1]; exact Below.refl _ _)
        have HC1' : Hid (Kd.C (Kd.int .i64) W1 A1 row.length row) := by rw [hW1]; exact HC1
        have HRp' : Hid (Kd.N (Kd.slice 3 (Kd.int .i64)) 23 W1 w.heap.size (fun k_ => (w.heap.size ≤ k_)) (.slice (some adL) L.length co) L) := by rw [hW1]; exact HRp
        have HBp' : Hid (Below w.heap.size w W1) := by rw [hW1]; exact HBp
        clear hcellL
        have hrn : row.length = n := by rw [H1.out, HAL.out]
        have hr6 : row.length ≤ 6 := by rw [hrn]; exact HN6.out
        go_loopw [11, 55] (fun v11 v55 wr2 => ∃ j : Nat, j ≤ row.length ∧ v55 = .int .i64 (j : Int) ∧ v11 = .int .u32 (seenF (row.take j)) ∧ Hid (Below W1.heap.size W1 wr2)) (fun _ v55 _ => row.length - (intOf v55).toNat)
        case atStart => exact ⟨0, Nat.zero_le _, rfl, rfl, HBW⟩
        case round =>
          clear HBW HC1 HRp HBp hW1
          obtain ⟨j, hj, rfl, rfl, HBW⟩ := hrel
          by_cases hltj : j < row.length
          · obtain ⟨adR, hA1, hcellR⟩ := Kd.at_int (Kd.C_below HC1'.out HBW.out) (j : Int) (by omega) (by omega)
            subst hA1
            rw [Int.toNat_natCast] at hcellR
            have hxr := H2.out (rd row (j : Int)) (Go.Proofs.Ytimbamimabdmcaa.U.rd_mem hltj)
            have hse := H3.out j hltj
            have htk := take_snocI row j hltj
            obtain ⟨x, hx⟩ := Int.eq_ofNat_of_zero_le hxr.1
            rw [hx] at hcellR hxr hse htk
            rw [Int.toNat_natCast] at hse
            have hBw : Below w.heap.size w wr := HBp'.out.trans (HBW.out.mono HBp'.out.size)
            obtain ⟨ad0, hA0, hcellA⟩ := Kd.at_int (Kd.C_below HRA.out hBw) (x : Int) (by omega) hxr.2
            subst hA0
            rw [Int.toNat_natCast] at hcellA
            have hxn : (x : Int) < n := by rw [← HAL.out]; exact hxr.2
            have hn6 := HN6.out
            obtain ⟨S, hS⟩ : ∃ S, S = seenF (row.take j) := ⟨_, rfl⟩
            rw [← hS] at hse
            have hor : bits BinOp.or IntKind.u32 (rd a (x : Int)) (2 ^ x % 4294967296) = orBit (rd a (x : Int)) x := by unfold orBit; rw [Nat.min_eq_left (by omega)]
            have hos : bits BinOp.or IntKind.u32 S (2 ^ x % 4294967296) = orBit S x := by unfold orBit; rw [Nat.min_eq_left (by omega)]
            have hz : (bits BinOp.and IntKind.u32 (bits BinOp.or IntKind.u32 (rd a (x : Int)) (2 ^ x % 4294967296)) S != 0) = false := by rw [hor, hse]; rfl
            have HS2 := Lib.hid (show seenF (row.take (j + 1)) = bits BinOp.or IntKind.u32 S (2 ^ x % 4294967296) by rw [htk, seen_snoc, ← hS, hos, Int.toNat_natCast])
            have HX := Lib.hid hx
            have HSS := Lib.hid hS
            rw [← hS]
            have hx0 : decide ((x : Int) < 0) = false := decide_eq_false (by omega)
            have hx1 : decide ((n : Int) ≤ (x : Int)) = false := decide_eq_false (by omega)
            have hx2 : decide (n ≤ x) = false := decide_eq_false (by omega)
            have hx3 : ¬ n ≤ x := by omega
            clear hx hS hse htk hor hos hBw hxr
            go_wp2
            go_quiet (fail)
            go_wp2
            go_roundw
            case rel => exact ⟨j + 1, by omega, by go_num, by rw [HS2.out], Lib.hid (pw_below_drewN HBW.out _)⟩
            case measure => simp [intOf]; omega
          · obtain rfl : j = row.length := by omega
            have hne : ((row.length : Int) != (n : Int)) = false := by rw [hrn]; simp
            rw [List.take_length]
            have hBw : Below w.heap.size w wr := HBp'.out.trans (HBW.out.mono HBp'.out.size)
            have HRw := Lib.hid (Kd.N_below HRp'.out HBW.out)
            have HCw := Lib.hid (Kd.C_below HC1'.out HBW.out)
            have HBw := Lib.hid hBw
            clear hBw
            rcases Nat.eq_zero_or_pos p with hp0 | hp0
            · subst hp0
              go_wp2
              go_roundw
              case rel => exact ⟨1, by omega, by go_num, HRw, HBw⟩
              case measure => simp [intOf]; omega
            · obtain ⟨q, rfl⟩ : ∃ q, p = q + 1 := ⟨p - 1, by omega⟩
              obtain ⟨adP, AP, cP, hAP, hcellP, hlP, hCP⟩ := at_L3 (Kd.N_reads' HRw.out).2.2 (q : Int) (by omega) (by omega)
              obtain rfl := Option.some.inj hAP
              obtain ⟨prev, hpv⟩ : ∃ prev, prev = L.getD q [] := ⟨_, rfl⟩
              have hrd : rd_L3 L (q : Int) = prev := by rw [hpv]; unfold rd_L3; rw [Int.toNat_natCast]
              rw [hrd, Int.toNat_natCast] at hcellP
              rw [hrd] at hlP hCP
              obtain ⟨cv, K, hcv, hc0⟩ := H4.out (by omega)
              rw [show q + 1 - 1 = q by omega, ← hpv] at hcv
              have HCV := Lib.hid hcv
              have HCP := Lib.hid hCP
              have hd1 : decide (0 ≤ cv) = false := decide_eq_false (by omega)
              have hd0 : decide ((q : Int) + 1 > 0) = true := decide_eq_true (by omega)
              have hcmp := slices_Compare_int_int.calls K AP cP prev A1 c1 row cv wr HCP.out hlP HCw.out hl1 HCV.out
              rw [hrn] at hcmp
              have HCMP := Lib.hid hcmp
              clear hcv hCP hrd hpv hcmp
              go_wp2_with (first
                | (go_at_call 17; refine HCMP.out.mono ?_; rintro e w7 ⟨rfl, ⟨m7, rfl⟩⟩))
              go_roundw
              case rel => exact ⟨q + 1 + 1, by omega, by go_num, Lib.hid (Kd.N_drewN HRw.out _), Lib.hid (pw_below_drewN HBw.out _)⟩
              case measure => simp [intOf]; omega
      · obtain rfl : p = L.length := by omega
        have HBq := HBp
        have HRAq := Lib.hid (Kd.C_below HRA.out HBp.out)
        clear HRp HBp
        have hn6 := HN6.out
        have hal3 := HAL.out
        go_wp2
        obtain ⟨W1, hW1⟩ : ∃ W1, W1 = wr := ⟨_, rfl⟩
        have HBW : Hid (Below w.heap.size W1 wr) := Lib.hid (by rw [hW1]; exact Below.refl _ _)
        have HBq' : Hid (Below w.heap.size w W1) := by rw [hW1]; exact HBq
        have HRA' : Hid (Kd.C (Kd.int .u32) W1 A0 a.length a) := by rw [hW1]; exact HRAq
        clear HBq HRAq
        go_loopw [14, 15, 106] (fun v14 v15 v106 wr2 => ∃ k : Nat, k ≤ n ∧ v106 = .int .i64 (k : Int) ∧ v14 = .int .i64 ((factN k : Nat) : Int) ∧ v15 = .bool (looseB (a.take k)) ∧ Hid (Below w.heap.size W1 wr2)) (fun _ _ v106 _ => n - (intOf v106).toNat)
        case atStart => exact ⟨0, Nat.zero_le _, rfl, rfl, rfl, HBW⟩
        case round =>
          clear HBW hW1
          obtain ⟨k, hk, rfl, rfl, rfl, HBW⟩ := hrel
          have HB5 := Lib.hid (HBq'.out.trans HBW.out)
          by_cases hltk : k < n
          · obtain ⟨adA, hA1, hcellA⟩ := Kd.at_int (Kd.C_below HRA.out HB5.out) (k : Int) (by omega) (by omega)
            subst hA1
            rw [Int.toNat_natCast] at hcellA
            have htk := take_snocI a k (by omega)
            have hls : looseB (a.take (k + 1)) = (looseB (a.take k) && (rd a (k : Int) == 0)) := by rw [htk, loose_snoc]
            have HLS := Lib.hid hls
            have hfl : factN k * (k + 1) ≤ 720 := fact_le ⟨k + 1, by omega⟩
            have hmul : wrap64 (((factN k : Nat) : Int) * ((k : Int) + 1)) = ((factN (k + 1) : Nat) : Int) := by
              have h1 : ((factN k : Nat) : Int) * ((k : Int) + 1) = ((factN k * (k + 1) : Nat) : Int) := by rw [Int.natCast_mul]; rfl
              rw [h1, Go.Proofs.Ytimbamimabdmcaa.U.w64 (by omega) (by omega)]
              rfl
            have HMU := Lib.hid hmul
            obtain ⟨F, hF⟩ : ∃ F, F = factN k := ⟨_, rfl⟩
            have HFF := Lib.hid hF
            rw [← hF] at HMU ⊢
            clear htk hls hfl hmul hF
            cases hb : looseB (a.take k) with
            | true =>
              rw [hb] at HLS
              go_wp2
              go_roundw
              case rel => exact ⟨k + 1, by omega, by go_num, by rw [HMU.out], by rw [HLS.out, Bool.true_and], HBW⟩
              case measure => simp [intOf]; omega
            | false =>
              rw [hb] at HLS
              go_wp2
              go_roundw
              case rel => exact ⟨k + 1, by omega, by go_num, by rw [HMU.out], by rw [HLS.out, Bool.false_and], HBW⟩
              case measure => simp [intOf]; omega
          · obtain rfl : k = n := by omega
            have hta : a.take k = a := by rw [← hal3, List.take_length]
            rw [hta]
            have hq0 : (looseB a && ((L.length : Int) != ((factN k : Nat) : Int))) = false := by
              cases hb : looseB a with
              | true => rw [Bool.true_and, HLO.out hb]; simp
              | false => rfl
            have hq3 : looseB a = true → ((L.length : Int) != ((factN k : Nat) : Int)) = false := by
              intro hb; rw [hb, Bool.true_and] at hq0; exact hq0
            obtain ⟨F, hF⟩ : ∃ F, F = factN k := ⟨_, rfl⟩
            rw [← hF] at hq0 hq3 ⊢
            clear hF
            obtain ⟨b, hb⟩ : ∃ b, b = looseB a := ⟨_, rfl⟩
            rw [← hb] at hq0 hq3 ⊢
            clear hb hta
            clear HROW HLO HBW HBq' HRA' hL1
            rcases Nat.eq_zero_or_pos k with hkk | hkk
            · subst hkk
              cases b with
              | true =>
                have hq4 := hq3 rfl
                clear hq3 hq0
                go_wp2
                go_ret
                exact ⟨rfl, HB5.out⟩
              | false =>
                clear hq3 hq0
                go_wp2
                go_ret
                exact ⟨rfl, HB5.out⟩
            · have hkz : ((k : Int) == 0) = false := beq_eq_false_iff_ne.2 (by omega)
              obtain ⟨m, f, hmf, hway⟩ := HW.out.resolve_left (by omega)
              have HM := Lib.hid hmf
              have HWAY := Lib.hid hway
              have hHRA := HRA.out
              clear HW hmf hway
              have hnz : (k : Int) ≠ 0 := by omega
              have hz1 : ((k : Int) == 0) = false := by simp; omega
              have hq1 : -9223372036854775808 ≤ i0 ∧ i0 ≤ 9223372036854775807 := bounds_i64 hi0
              have hq2 : -9223372036854775808 ≤ k0 ∧ k0 ≤ 9223372036854775807 := bounds_i64 hk0
              cases b
              all_goals (first | (have hq4 := hq3 rfl) | skip)
              all_goals clear hq3 hq0
              all_goals
                go_upto_region 31 with (fail)
                go_quiet (fail)
                obtain ⟨hI0, hI1⟩ := idxM_in i0 k hkk (by omega)
                obtain ⟨hK0, hK1⟩ := idxM_in k0 k hkk (by omega)
                obtain ⟨I, hI⟩ := Int.eq_ofNat_of_zero_le hI0
                obtain ⟨J, hJ⟩ := Int.eq_ofNat_of_zero_le hK0
                rw [hI] at hI1 HM
                rw [hJ] at hK1 HM
                have hcl := Lib.hid (slices_Clone_uint32_uint32.calls A0 c0 a a (wr.drewN nq) (Kd.C_drewN (Kd.C_below HRA.out HB5.out) nq) hca (by unfold slices_Clone_uint32_uint32.f; rw [if_pos (by rw [HAL.out]; omega)]))
                rw [HAL.out] at hcl
                rw [show Int.tmod (wrap64 (Int.tmod i0 k + k)) k = (I : Int) from hI, show Int.tmod (wrap64 (Int.tmod k0 k + k)) k = (J : Int) from hJ]
                go_upto_region 33 with (first
                  | (go_at_call 15; refine hcl.out.mono ?_; rintro e w2 ⟨v2, rfl, hR2, hB2⟩))
                obtain ⟨g, cap, rfl, hg0, hg1, _⟩ := Kd.R_form hR2 (by rw [HAL.out]; exact hkk)
                obtain ⟨hc7, hf7⟩ := Kd.R_cell (0 : Int) hR2 (I : Int) (by omega) (by rw [HAL.out]; omega)
                rw [Int.toNat_natCast] at hc7 hf7
                have hc7' : w2.cell? ⟨g, I, none⟩ = some (.int .u32 (rd a (I : Int))) := hc7
                have hBw2 : Below wr.heap.size wr w2 := (pw_below_drewN (Below.refl _ wr) nq).trans (hB2.mono (Nat.le_refl _))
                obtain ⟨x, hx⟩ : ∃ x, x = orBit (rd a (I : Int)) J := ⟨_, rfl⟩
                have hxe : bits BinOp.or IntKind.u32 (rd a (I : Int)) (2 ^ J % 4294967296) = x := by rw [hx]; unfold orBit; rw [Nat.min_eq_left (by omega)]
                obtain ⟨W4, hW4⟩ : ∃ W4, W4 = (w2.setCell ⟨g, I, none⟩ (.int .u32 x)).drew := ⟨_, rfl⟩
                have hgw : w.heap.size ≤ g := Nat.le_trans HB5.out.size hg0
                have HB4 : Hid (Below w.heap.size w W4) := Lib.hid (by rw [hW4]; exact ((HB5.out.trans (hBw2.mono HB5.out.size)).setCell (p := ⟨g, I, none⟩) hgw _).drew)
                have hb4 : (orAt a (I : Int) (J : Int)).length = k := by unfold orAt; rw [List.length_set, HAL.out]
                have hC4 : Kd.C (Kd.int .u32) W4 (some ⟨g, 0, none⟩) (orAt a (I : Int) (J : Int)).length (orAt a (I : Int) (J : Int)) := by
                  have h1 := (Kd.R_reads' (Kd.R_put hR2 (I : Int) x).1).2.2
                  rw [hW4]
                  refine Kd.C_drew ?_
                  unfold orAt
                  rw [Int.toNat_natCast, Int.toNat_natCast, ← hx]
                  rw [Int.toNat_natCast] at h1
                  exact h1
                have hn4 : (orAt a (I : Int) (J : Int)).length ≤ cap := by have := (Kd.R_reads' hR2).2.1; rw [hb4, ← HAL.out]; exact this
                have hL4 := extend_Count.calls (some ⟨g, 0, none⟩) cap (orAt a (I : Int) (J : Int)) m f W4 hC4 hn4 HM.out
                rw [hb4] at hL4
                have HL4 := Lib.hid hL4
                have HHX := Lib.hid hxe
                rw [HAL.out]
                clear hR2 hB2 hBw2 hC4 hL4 hcl hx hxe hb4 hc7 hn4
                go_region
                rw [HHX.out, ← hW4]
                clear hc7' hf7 hW4
                rcases HWAY.out with hf8 | ⟨hf0, hm1, hm2⟩
                · subst hf8
                  go_wp2_with (first
                    | (go_at_call 19; refine HL4.out.mono ?_; rintro e w5 ⟨rfl, hB5⟩; have HB6 := Lib.hid (HB4.out.trans (hB5.mono HB4.out.size)); clear hB5))
                  go_ret
                  exact ⟨rfl, HB6.out⟩
                · subst hf0
                  have hd1 : decide (1 ≤ m) = true := decide_eq_true (by omega)
                  have hd2 : decide (m ≤ (L.length : Int)) = true := decide_eq_true (by omega)
                  go_wp2_with (first
                    | (go_at_call 19; refine HL4.out.mono ?_; rintro e w5 ⟨rfl, hB5⟩; have HB6 := Lib.hid (HB4.out.trans (hB5.mono HB4.out.size)); clear hB5))
                  go_ret
                  exact ⟨rfl, HB6.out⟩
theorem recantlaw11_ExtendRises.walk (P : recantlaw11_ExtendRises.Pure) (a0 : Option Addr) (len0 cap0 : Nat) (z0 : List Int) (a1 a2 : Int) (w : World) (w0 : (a0 = none ∧ len0 = 0 ∧ cap0 = 0 ∧ z0 = []) ∨ ∃ x, a0 = some x ∧ len0 ≤ cap0 ∧ cap0 ≤ maxLen ∧ z0.length = cap0 ∧ (∀ i, i < z0.length → w.cell? (x.add i) = some (.int .u32 (z0.getD i 0))) ∧ ∀ n ∈ z0, (Lit.int .u32 n).wf = true) (y0 : len0 * 4 ≤ 140737488351232) (w1 : (Lit.int .i64 a1).wf = true) (w2 : (Lit.int .i64 a2).wf = true) :
    Calls Try.prog 6 #[.slice a0 len0 cap0, .int .i64 a1, .int .i64 a2] w fun e w' => e = .returned (.bool true) ∧ Below w.heap.size w w' := by
  obtain ⟨l0, rfl, hr0, hm0, hw0, hc0⟩ := ReadsInt.ofRowC w0
  exact rise_in _ _ l0 a1 a2 w (Kd.C_of_reads (d := (0 : Int)) (h1 := fun _ => rfl) hr0) hc0 w1 w2 (P l0 a1 a2 hm0 y0 hw0 w1 w2)
end Go.Proofs.Ytimbamimabdmcaa.P

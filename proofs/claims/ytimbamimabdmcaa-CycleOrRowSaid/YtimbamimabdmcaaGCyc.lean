/- extend.cyclic: is there a way back? -/
import Derived.Test.YtimbamimabdmcaaUFree
import Derived.Test.YtimbamimabdmcaaP6
import Derived.Test.YtimbamimabdmcaaGIter
import Derived.LoopTactic
import Derived.WalkKit
import Derived.OwnWalk
import Derived.Outline
import Derived.Lib.Hide
import Derived.WalkMore
import Derived.ScopeJumps
namespace Go.Proofs.Ytimbamimabdmcaa.P
set_option linter.unusedVariables false
set_option linter.unusedSimpArgs false
open Go Go.RowKit Go.Proofs.Ytimbamimabdmcaa.U Go.Proofs.YtimbamimabdmcaaW.PrintWords Go.Proofs.YtimbamimabdmcaaW.PrintLast Go.Proofs.YtimbamimabdmcaaW.PrintMore

def cycB (l0 : List Int) : Bool := decide (extR l0 l0.length [] = [])
theorem cyc_stuck (l0 row : List Int) (hu : InU l0) (hn : l0.length ≤ 6) (hs : ∀ k : Nat, k < l0.length → (k : Int) ∉ row → freeS l0 row k = false) (k0 : Nat) (hk0 : k0 < l0.length) (hk1 : (k0 : Int) ∉ row) : cycB l0 = true := by
  obtain ⟨c, _, _, h3, h4⟩ := stuck_cycle l0 row hu hn hs k0 hk0 hk1
  rcases ext_or_cycle l0 hu hn with ⟨_, h⟩ | ⟨h, _⟩
  · exact absurd ⟨c, h3, h4⟩ h
  · exact decide_eq_true h
theorem cyc_whole (l0 row : List Int) (hnd : row.Nodup) (hin : InN l0.length row) (hl : row.length = l0.length) (hf : allFree l0 row row.length = true) : cycB l0 = false := by
  refine decide_eq_false fun h => ?_
  have := (mem_ext l0 row).2 ⟨rows_all _ _ row hl hnd hin, by rw [← hl]; exact hf⟩
  rw [h] at this
  cases this
/-- What is taken so far. -/
structure Took (l0 row : List Int) (m : Int) : Prop where
  nodup : row.Nodup
  inn : InN l0.length row
  left : U.Left l0.length m row
  free : allFree l0 row row.length = true
theorem Took.len {l0 row : List Int} {m : Int} (h : Took l0 row m) : row.length ≤ l0.length := by
  have : row.length ≤ ((List.range l0.length).map (fun (k : Nat) => (k : Int))).length := List.Nodup.length_le_of_subset h.nodup (fun x hx => by
    have := h.inn x hx
    obtain ⟨k, rfl⟩ := Int.eq_ofNat_of_zero_le this.1
    exact List.mem_map.2 ⟨k, List.mem_range.2 (by omega), rfl⟩)
  simpa using this
theorem Took.done {l0 row : List Int} {m : Int} (h : Took l0 row m) (hu : InU l0) (hn : l0.length ≤ 6) (hs : ∀ k : Nat, k < l0.length → (k : Int) ∉ row → freeS l0 row k = false) : (m != 0) = cycB l0 := by
  by_cases hm : m = 0
  · have hall := (left_zero hn h.left).1 hm
    have hl : row.length = l0.length := by
      rcases Nat.lt_or_ge row.length l0.length with h1 | h1
      · exact absurd hm (left_more hn h.left h1)
      · have := h.len; omega
    rw [cyc_whole l0 row h.nodup h.inn hl h.free, hm]; rfl
  · have : ∃ k0 : Nat, k0 < l0.length ∧ (k0 : Int) ∉ row := by
      refine Classical.byContradiction fun hno => hm ((left_zero hn h.left).2 fun i hi => ?_)
      exact Classical.byContradiction fun h2 => hno ⟨i, hi, h2⟩
    obtain ⟨k0, h1, h2⟩ := this
    rw [cyc_stuck l0 row hu hn hs k0 h1 h2]
    simpa using hm
theorem not_less : ∀ m : Fin 64, ∀ i : Fin 6, ((m.val : Nat) : Int) / 2 ^ i.val % 2 = 1 → notBit ((m.val : Nat) : Int) i.val < (m.val : Nat) := by decide +kernel
theorem Took.take {l0 row : List Int} {m : Int} (h : Took l0 row m) (hn : l0.length ≤ 6) (k : Nat) (hk : k < l0.length) (hc : row.contains (k : Int) = false) (hf : freeS l0 row k = true) : Took l0 (row ++ [(k : Int)]) (notBit m k) ∧ (notBit m k).toNat < m.toNat := by
  have hk2 : (k : Int) ∉ row := by
    rw [← Bool.not_eq_true, List.contains_iff_mem] at hc; exact hc
  refine ⟨⟨List.nodup_append.2 ⟨h.nodup, by simp, fun a ha b hb => by rw [List.mem_singleton] at hb; subst hb; intro e; subst e; exact hk2 ha⟩, fun x hx => ?_, left_take h.left (by omega), free_all l0 row k h.free hf⟩, ?_⟩
  · rcases List.mem_append.1 hx with h1 | h1
    · exact h.inn x h1
    · rw [List.mem_singleton] at h1; subst h1; omega
  · obtain ⟨h0, h1, h2⟩ := h.left
    obtain ⟨j, rfl⟩ := Int.eq_ofNat_of_zero_le h0
    have := not_less ⟨j, by omega⟩ ⟨k, by omega⟩ ((h2 k (by omega)).2 ⟨hk, hk2⟩)
    have h3 := (left_take h.left (i := k) (by omega)).1
    dsimp only at this
    omega
theorem left_first : ∀ n : Fin 7, ∀ i : Fin 6, (((2 : Int) ^ n.val - 1) / 2 ^ i.val % 2 = 1 ↔ i.val < n.val) ∧ 0 ≤ (2 : Int) ^ n.val - 1 ∧ (2 : Int) ^ n.val - 1 < 64 := by decide +kernel
theorem took_nil (l0 : List Int) (hn : l0.length ≤ 6) : Took l0 [] (2 ^ l0.length - 1) := by
  have h := left_first ⟨l0.length, by omega⟩
  have hl : U.Left l0.length (2 ^ l0.length - 1) [] := by
    refine ⟨(h 0).2.1, (h 0).2.2, fun i hi => ?_⟩
    have := (h ⟨i, hi⟩).1
    dsimp only at this
    rw [this]
    simp
  exact ⟨List.nodup_nil, (fun x hx => nomatch hx), hl, rfl⟩
theorem first_eq : ∀ n : Fin 7, ((2 : Int) ^ n.val % 4294967296 - 1) % 4294967296 = 2 ^ n.val - 1 := by decide +kernel
set_option maxRecDepth 100000 in
set_option maxHeartbeats 4000000 in
theorem cyclic_any (A : Option Addr) (cA : Nat) (l0 : List Int) (w : World) (hr0 : (Kd.int .u32).C w A l0.length l0) (hc0 : l0.length ≤ cA) (hu : InU l0) (hn : l0.length ≤ 6) :
    Calls Try.prog 51 #[.slice A l0.length cA] w fun e w' => e = .returned (.bool (cycB l0)) ∧ Below w.heap.size w w' := by
  have HU := Lib.hid hu
  have HR := Lib.hid hr0
  have hTk := Lib.hid (took_nil l0 hn)
  clear hu hr0
  go_enter Try.func51, Try.ntmps51
  go_wp2
  refine wp_scope_jumps 0 (fun a' w' => ∃ (m : Int) (row : List Int) (u4 u5 u6 u7 u8 u9 u10 u11 u12 u13 u14 u15 u16 u17 u18 u19 u20 u21 u22 u23 u24 u25 u26 u27 u28 u29 u30 u31 : Value), Took l0 row m ∧ Below w.heap.size w w' ∧ a' = { tmps := #[.slice A l0.length cA, undef, .bool false, .int .u32 m, u4, u5, u6, u7, u8, u9, u10, u11, u12, u13, u14, u15, u16, u17, u18, u19, u20, u21, u22, u23, u24, u25, u26, u27, u28, u29, u30, u31], defers := [] }) (fun a' _ => (intOf (a'.tmps.getD 3 undef)).toNat) rfl ?first ?pass
  case first =>
    go_wp2
    go_step3
    obtain ⟨m, hm⟩ : ∃ m : Int, m = (2 ^ l0.length % 4294967296 - 1) % 4294967296 := ⟨_, rfl⟩
    have htk : Took l0 [] m := by
      have := first_eq ⟨l0.length, by omega⟩
      dsimp only at this
      rw [hm, this]; exact hTk.out
    rw [← hm]
    clear hm hTk
    have hB := Below.refl w.heap.size w
    obtain ⟨row, hrow⟩ : ∃ row : List Int, row = [] := ⟨_, rfl⟩
    rw [← hrow] at htk
    clear hrow
    go_wp2
    have HT := Lib.hid htk
    go_loopw [3, 11] (fun v3 i wr => v3 = .int .u32 m ∧ ∃ k : Nat, k ≤ l0.length ∧ i = .int .i64 k ∧ Hid (∀ j : Nat, j < k → (j : Int) ∉ row → freeS l0 row j = false) ∧ Below w.heap.size w wr) (fun _ i _ => l0.length - (intOf i).toNat)
    case atStart => exact ⟨rfl, 0, Nat.zero_le _, rfl, Lib.hid (fun j hj => by omega), hB⟩
    case round =>
      obtain ⟨rfl, k, hk, rfl, hst, hBr⟩ := hrel
      by_cases hlt : k < l0.length
      · have hmb := HT.out.left.2.1
        have hb01 := bitAt_eq m k HT.out.left.1 (by omega) (by omega)
        have hlb := left_bit HT.out.left k (by omega) hlt
        have h2 : bits BinOp.and IntKind.u32 (m / 2 ^ k) 1 = bitAt m k := by unfold bitAt; rw [Nat.min_eq_left (by omega)]
        cases hc : row.contains (k : Int) with
        | true =>
          have b0 : (bits BinOp.and IntKind.u32 (m / 2 ^ k) 1 == 1) = false := by
            rw [beq_eq_false_iff_ne, h2]
            intro h; rw [hlb.1 h] at hc; cases hc
          have hst2 := Lib.hid (show ∀ j : Nat, j < k + 1 → (j : Int) ∉ row → freeS l0 row j = false from fun j hj hn2 => by
            rcases Nat.lt_or_ge j k with h | h
            · exact hst.out j h hn2
            · obtain rfl : j = k := by omega
              exact absurd (List.contains_iff_mem.1 hc) hn2)
          clear hc hb01 h2 hlb hmb
          go_wp2
          go_roundw
          case rel => exact ⟨rfl, k + 1, by omega, by go_num, hst2, hBr⟩
          case measure => simp [intOf]; omega
        | false =>
          have b0 : (bits BinOp.and IntKind.u32 (m / 2 ^ k) 1 == 1) = true := by
            rw [beq_iff_eq, h2]
            exact hlb.2 hc
          obtain ⟨f, hf⟩ := free_f l0 row m HU.out hn HT.out.left k (by omega)
          have hfree := extend_free.calls f A cA l0 m (k : Int) _ wr (Kd.C_below HR.out hBr) hc0 hf
          cases hfs : freeS l0 row k with
          | false =>
            rw [hfs] at hfree
            have HF := Lib.hid hfree
            have hst2 := Lib.hid (show ∀ j : Nat, j < k + 1 → (j : Int) ∉ row → freeS l0 row j = false from fun j hj hn2 => by
              rcases Nat.lt_or_ge j k with h | h
              · exact hst.out j h hn2
              · obtain rfl : j = k := by omega
                exact hfs)
            clear hc hb01 h2 hlb hmb hfs hf hfree
            go_wp2_with (go_at_call 55; refine HF.out.mono ?_; rintro e w2 ⟨rfl, hD⟩)
            go_roundw
            case rel => exact ⟨rfl, k + 1, by omega, by go_num, hst2, hBr.trans ((drawn_below hD).mono hBr.size)⟩
            case measure => simp [intOf]; omega
          | true =>
            rw [hfs] at hfree
            have HF := Lib.hid hfree
            obtain ⟨htk2, hless⟩ := HT.out.take hn k hlt hc hfs
            have hmk : bits BinOp.andNot IntKind.u32 m (2 ^ k % 4294967296) = notBit m k := by unfold notBit; rw [Nat.min_eq_left (by omega)]
            have HMK := Lib.hid hmk
            have HL := Lib.hid hless
            have HTK := Lib.hid htk2
            clear hc hb01 h2 hlb hmb hfs hf hfree hmk hless htk2
            go_wp2_with (go_at_call 55; refine HF.out.mono ?_; rintro e w2 ⟨rfl, hD⟩)
            have hB2 := hBr.trans ((drawn_below hD).mono hBr.size)
            go_step3
            rw [HMK.out]
            first
            | exact ⟨rfl, _, _, _, _, _, _, _, _, _, _, _, _, _, _, _, _, _, _, _, _, _, _, _, _, _, _, _, _, _, _, HTK.out, hB2, rfl⟩
            | exact ⟨rfl, ⟨_, _, _, _, _, _, _, _, _, _, _, _, _, _, _, _, _, _, _, _, _, _, _, _, _, _, _, _, _, _, HTK.out, hB2, rfl⟩, by simpa [intOf] using HL.out⟩
      · obtain rfl : k = l0.length := by omega
        have hres := Lib.hid (HT.out.done HU.out hn (fun j hj hn2 => hst.out j hj hn2))
        go_wp2
        (try simp only [Exit.jump])
        go_ret
        exact ⟨by rw [← hres.out]; rfl, hBr⟩
  case pass =>
    rintro a' w1 ⟨m, row, u4, u5, u6, u7, u8, u9, u10, u11, u12, u13, u14, u15, u16, u17, u18, u19, u20, u21, u22, u23, u24, u25, u26, u27, u28, u29, u30, u31, htk, hB, rfl⟩
    clear hTk
    go_wp2
    have HT := Lib.hid htk
    go_loopw [3, 11] (fun v3 i wr => v3 = .int .u32 m ∧ ∃ k : Nat, k ≤ l0.length ∧ i = .int .i64 k ∧ Hid (∀ j : Nat, j < k → (j : Int) ∉ row → freeS l0 row j = false) ∧ Below w.heap.size w wr) (fun _ i _ => l0.length - (intOf i).toNat)
    case atStart => exact ⟨rfl, 0, Nat.zero_le _, rfl, Lib.hid (fun j hj => by omega), hB⟩
    case round =>
      obtain ⟨rfl, k, hk, rfl, hst, hBr⟩ := hrel
      by_cases hlt : k < l0.length
      · have hmb := HT.out.left.2.1
        have hb01 := bitAt_eq m k HT.out.left.1 (by omega) (by omega)
        have hlb := left_bit HT.out.left k (by omega) hlt
        have h2 : bits BinOp.and IntKind.u32 (m / 2 ^ k) 1 = bitAt m k := by unfold bitAt; rw [Nat.min_eq_left (by omega)]
        cases hc : row.contains (k : Int) with
        | true =>
          have b0 : (bits BinOp.and IntKind.u32 (m / 2 ^ k) 1 == 1) = false := by
            rw [beq_eq_false_iff_ne, h2]
            intro h; rw [hlb.1 h] at hc; cases hc
          have hst2 := Lib.hid (show ∀ j : Nat, j < k + 1 → (j : Int) ∉ row → freeS l0 row j = false from fun j hj hn2 => by
            rcases Nat.lt_or_ge j k with h | h
            · exact hst.out j h hn2
            · obtain rfl : j = k := by omega
              exact absurd (List.contains_iff_mem.1 hc) hn2)
          clear hc hb01 h2 hlb hmb
          go_wp2
          go_roundw
          case rel => exact ⟨rfl, k + 1, by omega, by go_num, hst2, hBr⟩
          case measure => simp [intOf]; omega
        | false =>
          have b0 : (bits BinOp.and IntKind.u32 (m / 2 ^ k) 1 == 1) = true := by
            rw [beq_iff_eq, h2]
            exact hlb.2 hc
          obtain ⟨f, hf⟩ := free_f l0 row m HU.out hn HT.out.left k (by omega)
          have hfree := extend_free.calls f A cA l0 m (k : Int) _ wr (Kd.C_below HR.out hBr) hc0 hf
          cases hfs : freeS l0 row k with
          | false =>
            rw [hfs] at hfree
            have HF := Lib.hid hfree
            have hst2 := Lib.hid (show ∀ j : Nat, j < k + 1 → (j : Int) ∉ row → freeS l0 row j = false from fun j hj hn2 => by
              rcases Nat.lt_or_ge j k with h | h
              · exact hst.out j h hn2
              · obtain rfl : j = k := by omega
                exact hfs)
            clear hc hb01 h2 hlb hmb hfs hf hfree
            go_wp2_with (go_at_call 55; refine HF.out.mono ?_; rintro e w2 ⟨rfl, hD⟩)
            go_roundw
            case rel => exact ⟨rfl, k + 1, by omega, by go_num, hst2, hBr.trans ((drawn_below hD).mono hBr.size)⟩
            case measure => simp [intOf]; omega
          | true =>
            rw [hfs] at hfree
            have HF := Lib.hid hfree
            obtain ⟨htk2, hless⟩ := HT.out.take hn k hlt hc hfs
            have hmk : bits BinOp.andNot IntKind.u32 m (2 ^ k % 4294967296) = notBit m k := by unfold notBit; rw [Nat.min_eq_left (by omega)]
            have HMK := Lib.hid hmk
            have HL := Lib.hid hless
            have HTK := Lib.hid htk2
            clear hc hb01 h2 hlb hmb hfs hf hfree hmk hless htk2
            go_wp2_with (go_at_call 55; refine HF.out.mono ?_; rintro e w2 ⟨rfl, hD⟩)
            have hB2 := hBr.trans ((drawn_below hD).mono hBr.size)
            go_step3
            rw [HMK.out]
            first
            | exact ⟨rfl, _, _, _, _, _, _, _, _, _, _, _, _, _, _, _, _, _, _, _, _, _, _, _, _, _, _, _, _, _, _, HTK.out, hB2, rfl⟩
            | exact ⟨rfl, ⟨_, _, _, _, _, _, _, _, _, _, _, _, _, _, _, _, _, _, _, _, _, _, _, _, _, _, _, _, _, _, HTK.out, hB2, rfl⟩, by simpa [intOf] using HL.out⟩
      · obtain rfl : k = l0.length := by omega
        have hres := Lib.hid (HT.out.done HU.out hn (fun j hj hn2 => hst.out j hj hn2))
        go_wp2
        (try simp only [Exit.jump])
        go_ret
        exact ⟨by rw [← hres.out]; rfl, hBr⟩
end Go.Proofs.Ytimbamimabdmcaa.P

/- recantref11.ways, given: the places that can be come to. -/
import Derived.Test.YtimbamimabdmcaaUCycle
import Derived.Test.YtimbamimabdmcaaP2
import Derived.Test.YtimbamimabdmcaaGColl
import Derived.LoopTactic
import Derived.WalkKit
import Derived.OwnWalk
import Derived.Outline
import Derived.Lib.Hide
import Derived.ArgAppend
namespace Go.Proofs.Ytimbamimabdmcaa.P
set_option linter.unusedVariables false
set_option linter.unusedSimpArgs false
open Go Go.RowKit Go.Proofs.Ytimbamimabdmcaa.U Go.Proofs.YtimbamimabdmcaaW.PrintWords Go.Proofs.YtimbamimabdmcaaW.PrintLast Go.Proofs.YtimbamimabdmcaaW.PrintMore

def addK (out : List Int) (k : Int) (b : Bool) : List Int := if b && !out.contains k then out ++ [k] else out
def wFirst (l0 : List Int) (i : Int) : Nat → Nat → List Int → List Int
  | 0, _, out => out
  | d + 1, k, out => wFirst l0 i d (k + 1) (addK out (k : Int) (bitB (rd l0 i) k))
def wIn (l0 : List Int) (k : Nat) : List Int → List Int → List Int
  | [], out => out
  | x :: t, out => wIn l0 k t (addK out (k : Int) (bitB (rd l0 x) k))
def wStep (l0 : List Int) : Nat → Nat → List Int → List Int
  | 0, _, out => out
  | d + 1, k, out => wStep l0 d (k + 1) (wIn l0 k out out)
def wSteps (l0 : List Int) : Nat → List Int → List Int
  | 0, out => out
  | d + 1, out => wSteps l0 d (wStep l0 l0.length 0 out)
def waysF (l0 : List Int) (i : Int) (most : Nat) : List Int := if most = 0 then [] else wSteps l0 (most - 1) (wFirst l0 i l0.length 0 [])
/-- Places, each once. -/
def OutOK (n : Nat) (out : List Int) : Prop := out.Nodup ∧ InN n out
theorem OutOK.len {n : Nat} {out : List Int} (h : OutOK n out) : out.length ≤ n := by
  have : out.length ≤ ((List.range n).map (fun (k : Nat) => (k : Int))).length := List.Nodup.length_le_of_subset h.1 (fun x hx => by
    have := h.2 x hx
    obtain ⟨k, rfl⟩ := Int.eq_ofNat_of_zero_le this.1
    exact List.mem_map.2 ⟨k, List.mem_range.2 (by omega), rfl⟩)
  simpa using this
theorem OutOK.add {n : Nat} {out : List Int} (h : OutOK n out) (k : Nat) (hk : k < n) (hc : out.contains (k : Int) = false) : OutOK n (out ++ [(k : Int)]) := by
  have hk2 : (k : Int) ∉ out := by
    rw [← Bool.not_eq_true, List.contains_iff_mem] at hc; exact hc
  refine ⟨List.nodup_append.2 ⟨h.1, by simp, fun a ha b hb => by rw [List.mem_singleton] at hb; subst hb; intro e; subst e; exact hk2 ha⟩, fun x hx => ?_⟩
  rcases List.mem_append.1 hx with h1 | h1
  · exact h.2 x h1
  · rw [List.mem_singleton] at h1; subst h1; omega
/-- A snapshot of the row: where it lies. -/
def Snap (W : World) (A : Option Addr) (s : List Int) (v : Value) (out : List Int) : Prop :=
  (Kd.int .i64).C W A s.length s ∧ s <+: out ∧ ∀ ad g, eff s.length A = some ad → v.ownBlock = some g → ad.block = g → ad = ⟨g, 0, none⟩
theorem C_prefix {k : IntKind} {W : World} {A : Option Addr} {s out : List Int} (h : (Kd.int k).C W A out.length out) (hp : s <+: out) : (Kd.int k).C W A s.length s := by
  obtain ⟨t, rfl⟩ := hp
  refine ⟨rfl, Nat.le_trans (by simp) h.2.1, fun hs => ?_⟩
  obtain ⟨ad, rfl, h4⟩ := h.2.2 (by simp; omega)
  refine ⟨ad, rfl, fun j p hj => h4 j p ?_⟩
  rw [List.getElem?_append_left (List.getElem?_eq_some_iff.1 hj).1]; exact hj
theorem own_block_form {W : World} {base : Nat} {ok : Nat → Prop} {A : Option Addr} {n c : Nat} {xs : List Int} (h : (Kd.int .i64).R 3 W base ok (.slice A n c) xs) : (A = none ∧ c = 0 ∧ n = 0) ∨ ∃ g, A = some ⟨g, 0, none⟩ := by
  obtain ⟨_, inner, ho, _⟩ := h
  rcases ho.2 with ⟨hv, _⟩ | ⟨g, cap, cur, hv, _⟩
  · cases hv; exact .inl ⟨rfl, rfl, rfl⟩
  · cases hv; exact .inr ⟨g, rfl⟩
/-- One whole number more, and what becomes of a snapshot. -/
theorem append_snap {ops : Array Oper} {rest : List Oper} {o : Oper} {a : Act} {Q : Exit → Act → World → Prop} {w0 W : World} (base : Nat) (hgd : o.guard = none) (s x : Operand)
    (ho : o.op = .call { callee := .builtin .append, args := #[s, x], argTypes := #[23, 23] }) (v : Value) (xs : List Int) (p : Int) (hs : a.eval s = v) (hx : a.eval x = .slice (some ⟨W.heap.size, 0, none⟩) 1 1)
    (HO : (Kd.int .i64).R 3 W base (fun _ => True) v xs) (HB : Below base w0 W) (hbase : base ≤ W.heap.size) (hl : xs.length ≤ 1000)
    (h : ∀ v1 w1, (Kd.int .i64).R 3 w1 base (fun _ => True) v1 (xs ++ [p]) → Below base w0 w1 → (∀ A s, Snap W A s v xs → Snap w1 A s v1 (xs ++ [p])) → wpList Try.prog ops Q rest (a.put o.dst v1) w1) :
    wpList Try.prog ops Q (o :: rest) a (W.alloc (.cells #[.int .i64 p] 3)) := by
  obtain ⟨A, c, rfl⟩ := Kd.R_slice HO
  obtain ⟨i0, hi, hz0, hz1, hz2⟩ := info_parts infoInt
  have hr := Kd.R_reads' HO
  have h1 : W.ownsRow base 3 1 (.slice A xs.length c) xs.length (nums .i64 xs) := Kd.own_of_R (enc := Value.int .i64) HO
  have hgA : W.grownBy (W.alloc (.cells #[.int .i64 p] 3)) none := World.grownBy_alloc W _ none
  have hsn : ∀ (l : List Int), nums .i64 (l ++ [p]) = nums .i64 l ++ [.int .i64 p] := fun l => by simp [nums]
  have hgrow : c < xs.length + 1 → wpList Try.prog ops Q (o :: rest) a (W.alloc (.cells #[.int .i64 p] 3)) := fun hc => by
    refine wpList_append_grows (W.alloc (.cells #[.int .i64 p] 3)) hgd s x 23 ho 3 i0 (.int .i64 0) 1 8 Try.underlying23 hi hz0 hz1 hz2 rfl (by decide) A xs.length c (nums .i64 xs) hs ?_ (by simp [nums])
      (C_cells (Kd.C_below hr.2.2 (below_alloc (Below.refl _ _) _))) ⟨W.heap.size, 0, none⟩ 1 1 [.int .i64 p] hx rfl (cell_one_new _ _ _) (by simp [Value.oneCell']) hc (by unfold maxLen; omega) (by omega) ?_
    · rintro rfl
      rcases own_block_form HO with ⟨_, h2, h3⟩ | ⟨g, h2⟩
      · exact ⟨h3, h2⟩
      · cases h2
    · intro v1 w1 hown hg
      have hg2 : W.grownBy w1 none := World.grownBy.trans hgA hg
      have hown2 : w1.ownsRow W.heap.size 3 1 v1 (xs ++ [p]).length (nums .i64 (xs ++ [p])) := by
        rw [hsn, List.length_append]
        exact ⟨hown.1, hown.2.elim .inl (fun ⟨g, cap, cur, h⟩ => .inr ⟨g, cap, cur, h.1, Nat.le_trans (by simp) h.2.1, h.2.2⟩)⟩
      have hR1 := Kd.R_of_own (enc := Value.int .i64) (h1 := fun _ => rfl) (ok := fun _ => True) hown2 (fun k hk => trivial)
      refine h v1 w1 (Kd.R_lower hR1 hbase) (HB.grown hg2 hbase (fun k e => by cases e)) ?_
      rintro B t ⟨hC, hp, hB⟩
      refine ⟨Kd.C_below hC (grown_below hg2), hp.trans (List.prefix_append _ _), fun ad g e1 e2 e3 => ?_⟩
      have h5 := Kd.R_base hR1 g e2
      have h6 := C_eff_lt hC ad e1
      omega
  rcases own_block_form HO with ⟨rfl, rfl, h2⟩ | ⟨g, rfl⟩
  · exact hgrow (by omega)
  · rcases Nat.lt_or_ge c (xs.length + 1) with hc | hc
    · exact hgrow hc
    · refine wpList_append_fits (W.alloc (.cells #[.int .i64 p] 3)) hgd s x 23 ho base 3 i0 1 Try.underlying23 hi hz1 g xs.length c (nums .i64 xs) hs (h1.alloc _) ⟨W.heap.size, 0, none⟩ 1 1 [.int .i64 p] hx rfl (cell_one_new _ _ _) (by simp [Value.oneCell']) hc ?_
      intro w1 hown hg
      have hg2 : W.grownBy w1 (some g) := World.grownBy.trans (World.grownBy_alloc W _ _) hg
      have hown2 : w1.ownsRow base 3 1 (.slice (some ⟨g, 0, none⟩) (xs.length + 1) c) (xs ++ [p]).length (nums .i64 (xs ++ [p])) := by
        rw [hsn, List.length_append]
        exact hown
      have hR1 := Kd.R_of_own (enc := Value.int .i64) (h1 := fun _ => rfl) (ok := fun _ => True) hown2 (fun k hk => trivial)
      refine h _ w1 hR1 (HB.grown hg2 hbase (fun k e => by cases e; exact own_base h1 g rfl)) ?_
      rintro B t ⟨hC, hp, hB⟩
      have hp2 : t <+: xs ++ [p] := hp.trans (List.prefix_append _ _)
      refine ⟨?_, hp2, fun ad g' e1 e2 e3 => hB ad g' e1 e2 e3⟩
      by_cases hbl : ∃ ad, eff t.length B = some ad ∧ ad.block = g
      · obtain ⟨ad, he, hg3⟩ := hbl
        have hB2 := hB ad g he rfl hg3
        have hBe : B = some ad := by
          unfold eff at he
          split at he
          · cases he
          · exact he
        rw [hBe, hB2]
        have hr1 := Kd.R_reads' (n := (xs ++ [p]).length) (by rw [List.length_append]; exact hR1)
        exact C_prefix hr1.2.2 hp2
      · refine C_same_eff hC (fun ad e => ?_)
        have hlt := C_eff_lt hC ad e
        exact hg2.block _ hlt (fun e2 => hbl ⟨ad, e, by cases e2; rfl⟩)
theorem Snap.below {W W1 : World} {A : Option Addr} {s : List Int} {v : Value} {out : List Int} (h : Snap W A s v out) (hb : Below W.heap.size W W1) : Snap W1 A s v out := ⟨Kd.C_below h.1 hb, h.2⟩
theorem add_false (out : List Int) (k : Int) : addK out k false = out := rfl
theorem add_in {out : List Int} {k : Int} (b : Bool) (h : out.contains k = true) : addK out k b = out := by unfold addK; rw [h]; simp
theorem add_new {out : List Int} {k : Int} (h : out.contains k = false) : addK out k true = out ++ [k] := by unfold addK; rw [h]; rfl

set_option maxRecDepth 100000 in
set_option maxHeartbeats 4000000 in
theorem ways_any (A0 : Option Addr) (c0 : Nat) (l0 : List Int) (i : Int) (most : Nat) (w : World) (hr0 : Kd.C (Kd.int .u32) w A0 l0.length l0) (hc0 : l0.length ≤ c0) (hx : InU l0) (hn : l0.length ≤ 6) (hi0 : 0 ≤ i) (hi1 : i < l0.length) (hm : most ≤ 6) :
    Calls Try.prog 41 #[.slice A0 l0.length c0, .int .i64 i, .int .i64 (most : Int)] w fun e w' => ∃ v0_ : Value, e = .returned v0_ ∧ Kd.R (Kd.int .i64) 3 w' w.heap.size (fun _ => True) v0_ (waysF l0 i most) ∧ Below w.heap.size w w' := by
  have HR := Lib.hid hr0
  have HX := Lib.hid hx
  obtain ⟨W0, hW0⟩ : ∃ W0, W0 = w.alloc (.cells #[] 3) := ⟨_, rfl⟩
  have hB0 : Below w.heap.size w W0 := by rw [hW0]; exact below_alloc (Below.refl _ _) _
  have hR0 : (Kd.int .i64).R 3 W0 w.heap.size (fun _ => True) (.slice (some ⟨w.heap.size, 0, none⟩) 0 0) [] := by rw [hW0]; exact clone_fresh _ _ _ rfl
  have HW0 := Lib.hid hW0
  clear hr0 hx
  by_cases h0 : most = 0
  · subst h0
    rw [show waysF l0 i 0 = [] from rfl]
    clear hW0
    go_enter Try.func41, Try.ntmps41
    go_wp2
    go_ret
    exact ⟨_, rfl, by rw [← HW0.out]; exact hR0, by rw [← HW0.out]; exact hB0⟩
  · have hne : ((most : Int) == 0) = false := by simp; omega
    have HF := Lib.hid (show waysF l0 i most = wSteps l0 (most - 1) (wFirst l0 i l0.length 0 []) by unfold waysF; rw [if_neg h0])
    obtain ⟨res, hres⟩ : ∃ res, res = waysF l0 i most := ⟨_, rfl⟩
    rw [← hres] at HF ⊢
    have hbit : ∀ (a : Int) (k : Nat), 0 ≤ a ∧ a < 4294967296 → k < 6 → ∀ W, Calls Try.prog 35 #[.int .u32 a, .int .i64 (k : Int)] W fun e w' => e = .returned (.bool (bitB a k)) ∧ Drawn0 W w' := fun a k ha hk W => by
      obtain ⟨f, hf⟩ := (bit_f a k ha.1 ha.2 (by omega)).rounds
      exact recantref09_Bit.calls f a (k : Int) _ W hf
    have hhas : ∀ (W : World) (A : Option Addr) (c : Nat) (out : List Int) (k : Int), (Kd.int .i64).R 3 W w.heap.size (fun _ => True) (.slice A out.length c) out → out.length ≤ 6 → Calls Try.prog 33 #[.slice A out.length c, .int .i64 k] W fun e w' => e = .returned (.bool (out.contains k)) ∧ Drawn0 W w' := fun W A c out k hR hl => by
      obtain ⟨f, hf⟩ := (has_f out k (by omega)).rounds
      have hr := Kd.R_reads' hR
      exact recantref02_Has.calls f A c out k _ W hr.2.2 hr.2.1 hf
    have HBIT := Lib.hid hbit
    have HHAS := Lib.hid hhas
    clear hbit hhas hres hW0
    go_enter Try.func41, Try.ntmps41
    go_wp2
    rw [← HW0.out]
    go_loopw [7, 19] (fun v7 v19 wr => ∃ (k : Nat) (out : List Int), k ≤ l0.length ∧ v19 = .int .i64 (k : Int) ∧ Hid (wFirst l0 i l0.length 0 [] = wFirst l0 i (l0.length - k) k out) ∧ OutOK l0.length out ∧ (Kd.int .i64).R 3 wr w.heap.size (fun _ => True) v7 out ∧ Below w.heap.size w wr) (fun _ v19 _ => l0.length - (intOf v19).toNat)
    case atStart => exact ⟨0, [], Nat.zero_le _, rfl, Lib.hid rfl, ⟨List.nodup_nil, fun x hx => nomatch hx⟩, hR0, hB0⟩
    case round =>
      obtain ⟨k, out, hk, rfl, hF, hok, hR, hB⟩ := hrel
      obtain ⟨A, c, rfl⟩ := Kd.R_slice hR
      by_cases hlt : k < l0.length
      · obtain ⟨ad, hAd, hcell⟩ := Kd.at_int (Kd.C_below HR.out hB) i hi0 hi1
        subst hAd
        have HFk := Lib.hid (show wFirst l0 i l0.length 0 [] = wFirst l0 i (l0.length - (k + 1)) (k + 1) (addK out (k : Int) (bitB (rd l0 i) k)) by
          rw [hF.out]
          obtain ⟨d, hd⟩ : ∃ d, l0.length - k = d + 1 := ⟨l0.length - k - 1, by omega⟩
          rw [hd, show l0.length - (k + 1) = d by omega]; rfl)
        have hbt := HBIT.out (rd l0 i) k (HX.out _ (rd_mem_i hi0 hi1)) (by omega)
        have hol := hok.len
        cases hb : bitB (rd l0 i) k with
        | false =>
          rw [hb] at hbt HFk
          have HBT := fun W => Lib.hid (hbt W)
          clear hbt hb hF
          go_wp2_with (go_at_call 35; refine (HBT _).out.mono ?_; rintro e w2 ⟨rfl, hD⟩)
          go_roundw
          case rel => exact ⟨k + 1, out, by omega, by go_num, HFk, hok, Kd.R_below hR (drawn_below hD), hB.trans ((drawn_below hD).mono hB.size)⟩
          case measure => simp [intOf]; omega
        | true =>
          rw [hb] at hbt HFk
          have HBT := fun W => Lib.hid (hbt W)
          cases hc : out.contains (k : Int) with
          | true =>
            rw [add_in true hc] at HFk
            have HC := Lib.hid hc
            clear hbt hb hF hc
            go_wp2_with (first
              | (go_at_call 35; refine (HBT _).out.mono ?_; rintro e w2 ⟨rfl, hD⟩)
              | (go_at_call 33; refine (HHAS.out w2 A c out (k : Int) (Kd.R_below hR (drawn_below hD)) (by omega)).mono ?_; rintro e w3 ⟨rfl, hD2⟩; rw [HC.out]))
            have hb2 := (drawn_below hD).trans ((drawn_below hD2).mono (drawn_below hD).size)
            go_roundw
            case rel => exact ⟨k + 1, out, by omega, by go_num, HFk, hok, Kd.R_below hR hb2, hB.trans (hb2.mono hB.size)⟩
            case measure => simp [intOf]; omega
          | false =>
            rw [add_new hc] at HFk
            have hok2 := hok.add k hlt hc
            have HC := Lib.hid hc
            clear hbt hb hF hc
            go_wp2_with (first
              | (go_at_call 35; refine (HBT _).out.mono ?_; rintro e w2 ⟨rfl, hD⟩)
              | (go_at_call 33; refine (HHAS.out w2 A c out (k : Int) (Kd.R_below hR (drawn_below hD)) (by omega)).mono ?_; rintro e w3 ⟨rfl, hD2⟩; rw [HC.out]; have hb2 := (drawn_below hD).trans ((drawn_below hD2).mono (drawn_below hD).size); have hR3 := Kd.R_below hR hb2; have hB3 := hB.trans (hb2.mono hB.size))
              | (at_builtin; refine append_snap (w0 := w) w.heap.size rfl _ _ rfl (.slice A out.length c) out (k : Int) rfl rfl hR3 hB3 hB3.size (by omega) ?_; intro v1 w4 hR4 hB4 _))
            go_roundw
            case rel => exact ⟨k + 1, out ++ [(k : Int)], by omega, by go_num, HFk, hok2, hR4, hB4⟩
            case measure => simp [intOf]; omega
      · obtain rfl : k = l0.length := by omega
        have HE := Lib.hid (show wFirst l0 i l0.length 0 [] = out by rw [hF.out, Nat.sub_self]; rfl)
        clear hF
        go_wp2
        go_loopw [7, 9] (fun v7 v9 wr => ∃ (s : Nat) (out : List Int), 1 ≤ s ∧ s ≤ most ∧ v9 = .int .i64 (s : Int) ∧ Hid (res = wSteps l0 (most - s) out) ∧ OutOK l0.length out ∧ (Kd.int .i64).R 3 wr w.heap.size (fun _ => True) v7 out ∧ Below w.heap.size w wr) (fun _ v9 _ => most - (intOf v9).toNat)
        case atStart => exact ⟨1, out, Nat.le_refl _, by omega, rfl, Lib.hid (by rw [HF.out, HE.out]), hok, hR, hB⟩
        case round =>
          clear hR hB hok HE hlt hk
          rename_i _out0 _A0 _c0
          obtain ⟨s, out, hs1, hs2, rfl, hF, hok, hR, hB⟩ := hrel
          obtain ⟨A, c, rfl⟩ := Kd.R_slice hR
          by_cases hlt : s < most
          · have HS := Lib.hid (show res = wSteps l0 (most - (s + 1)) (wStep l0 l0.length 0 out) by
              rw [hF.out]
              obtain ⟨d, hd⟩ : ∃ d, most - s = d + 1 := ⟨most - s - 1, by omega⟩
              rw [hd, show most - (s + 1) = d by omega]; rfl)
            clear hF
            obtain ⟨out0, ho0⟩ : ∃ out0, out0 = out := ⟨_, rfl⟩
            rw [← ho0] at HS
            have HO0 := Lib.hid ho0
            clear ho0
            go_wp2
            go_loopw [7, 46] (fun v7 v46 wr => ∃ (k : Nat) (out : List Int), k ≤ l0.length ∧ v46 = .int .i64 (k : Int) ∧ Hid (wStep l0 l0.length 0 out0 = wStep l0 (l0.length - k) k out) ∧ OutOK l0.length out ∧ (Kd.int .i64).R 3 wr w.heap.size (fun _ => True) v7 out ∧ Below w.heap.size w wr) (fun _ v46 _ => l0.length - (intOf v46).toNat)
            case atStart => exact ⟨0, out, Nat.zero_le _, rfl, Lib.hid (by rw [HO0.out]; rfl), hok, hR, hB⟩
            case round =>
              clear hR hB hok HO0
              rename_i _out1 _A1 _c1 _o
              obtain ⟨k, out, hk, rfl, hF, hok, hR, hB⟩ := hrel
              obtain ⟨A, c, rfl⟩ := Kd.R_slice hR
              by_cases hlt2 : k < l0.length
              · have HK := Lib.hid (show wStep l0 l0.length 0 out0 = wStep l0 (l0.length - (k + 1)) (k + 1) (wIn l0 k out out) by
                  rw [hF.out]
                  obtain ⟨d, hd⟩ : ∃ d, l0.length - k = d + 1 := ⟨l0.length - k - 1, by omega⟩
                  rw [hd, show l0.length - (k + 1) = d by omega]; rfl)
                clear hF
                have hsn : Snap wr A out (.slice A out.length c) out := by
                  refine ⟨(Kd.R_reads' hR).2.2, List.prefix_refl _, fun ad g e1 e2 e3 => ?_⟩
                  rcases own_block_form hR with ⟨rfl, _, _⟩ | ⟨g', rfl⟩
                  · unfold eff at e1; split at e1 <;> cases e1
                  · cases e2
                    unfold eff at e1
                    split at e1
                    · cases e1
                    · cases e1; rfl
                obtain ⟨sn, hsn0⟩ : ∃ sn, sn = out := ⟨_, rfl⟩
                obtain ⟨AS, hAS⟩ : ∃ AS, AS = A := ⟨_, rfl⟩
                have hwin : Hid (wIn l0 k out out = wIn l0 k (sn.drop 0) out) := Lib.hid (by rw [hsn0]; rfl)
                have hsl : sn.length ≤ 6 := by rw [hsn0]; have := hok.len; omega
                have hsi : InN l0.length sn := by rw [hsn0]; exact hok.2
                rw [← hsn0, ← hAS] at hsn
                have HSN := Lib.hid hsn0
                have HAS := Lib.hid hAS
                clear hsn0 hAS
                go_wp2
                rw [← HAS.out, ← HSN.out]
                have hR2 : (Kd.int .i64).R 3 wr w.heap.size (fun _ => True) (.slice AS sn.length c) sn := by rw [HAS.out, HSN.out]; exact hR
                have hok2 : OutOK l0.length sn := by rw [HSN.out]; exact hok
                rw [← HSN.out] at HK
                clear hR hok HAS HSN hwin
                go_loopw [7, 51] (fun v7 v51 wr => ∃ (j : Nat) (o2 : List Int), j ≤ sn.length ∧ v51 = .int .i64 (j : Int) ∧ Hid (wIn l0 k sn sn = wIn l0 k (sn.drop j) o2) ∧ OutOK l0.length o2 ∧ (Kd.int .i64).R 3 wr w.heap.size (fun _ => True) v7 o2 ∧ Snap wr AS sn v7 o2 ∧ Below w.heap.size w wr) (fun _ v51 _ => sn.length - (intOf v51).toNat)
                case atStart => exact ⟨0, sn, Nat.zero_le _, rfl, Lib.hid rfl, hok2, hR2, hsn, hB⟩
                case round =>
                  clear hR2 hok2 hsn hB
                  obtain ⟨j, o2, hj, rfl, hF, hok, hR, hsn, hB⟩ := hrel
                  obtain ⟨A2, c2, rfl⟩ := Kd.R_slice hR
                  by_cases hlt3 : j < sn.length
                  · obtain ⟨adS, hAdS, hcellS⟩ := Kd.at_int hsn.1 (j : Int) (by omega) (by omega)
                    subst hAdS
                    have hxr := hsi (rd sn (j : Int)) (rd_mem hlt3)
                    obtain ⟨ad, hAd, hcell⟩ := Kd.at_int (Kd.C_below HR.out hB) (rd sn (j : Int)) hxr.1 hxr.2
                    subst hAd
                    have hx0 := hxr.1
                    have hx1 := hxr.2
                    have HFk := Lib.hid (show wIn l0 k sn sn = wIn l0 k (sn.drop (j + 1)) (addK o2 (k : Int) (bitB (rd l0 (rd sn (j : Int))) k)) by
                      rw [hF.out, List.drop_eq_getElem_cons hlt3]
                      have h5 : sn[j] = rd sn (j : Int) := by
                        have := rd_some hlt3
                        rw [List.getElem?_eq_getElem hlt3] at this
                        exact Option.some.inj this
                      rw [h5]; rfl)
                    have hbt := HBIT.out (rd l0 (rd sn (j : Int))) k (HX.out _ (rd_mem_i hx0 hx1)) (by omega)
                    have hol := hok.len
                    rw [Int.toNat_natCast] at hcellS
                    obtain ⟨x, hxv⟩ : ∃ x, x = rd sn (j : Int) := ⟨_, rfl⟩
                    rw [← hxv] at hcellS hcell hbt HFk hx0 hx1
                    clear hxv hxr
                    cases hb : bitB (rd l0 x) k with
                    | false =>
                      rw [hb] at hbt HFk
                      have HBT := fun W => Lib.hid (hbt W)
                      clear hbt hb hF
                      go_wp2_with (go_at_call 35; refine (HBT _).out.mono ?_; rintro e w2 ⟨rfl, hD⟩)
                      have hb2 := drawn_below hD
                      go_roundw
                      case rel => exact ⟨j + 1, o2, by omega, by go_num, HFk, hok, Kd.R_below hR hb2, hsn.below hb2, hB.trans (hb2.mono hB.size)⟩
                      case measure => simp [intOf]; omega
                    | true =>
                      rw [hb] at hbt HFk
                      have HBT := fun W => Lib.hid (hbt W)
                      cases hc : o2.contains (k : Int) with
                      | true =>
                        rw [add_in true hc] at HFk
                        have HC := Lib.hid hc
                        clear hbt hb hF hc
                        go_wp2_with (first
                          | (go_at_call 35; refine (HBT _).out.mono ?_; rintro e w2 ⟨rfl, hD⟩)
                          | (go_at_call 33; refine (HHAS.out w2 A2 c2 o2 (k : Int) (Kd.R_below hR (drawn_below hD)) (by omega)).mono ?_; rintro e w3 ⟨rfl, hD2⟩; rw [HC.out]))
                        have hb2 := (drawn_below hD).trans ((drawn_below hD2).mono (drawn_below hD).size)
                        go_roundw
                        case rel => exact ⟨j + 1, o2, by omega, by go_num, HFk, hok, Kd.R_below hR hb2, hsn.below hb2, hB.trans (hb2.mono hB.size)⟩
                        case measure => simp [intOf]; omega
                      | false =>
                        rw [add_new hc] at HFk
                        have hok2 := hok.add k (by omega) hc
                        have HC := Lib.hid hc
                        clear hbt hb hF hc
                        go_wp2_with (first
                          | (go_at_call 35; refine (HBT _).out.mono ?_; rintro e w2 ⟨rfl, hD⟩)
                          | (go_at_call 33; refine (HHAS.out w2 A2 c2 o2 (k : Int) (Kd.R_below hR (drawn_below hD)) (by omega)).mono ?_; rintro e w3 ⟨rfl, hD2⟩; rw [HC.out]; have hb2 := (drawn_below hD).trans ((drawn_below hD2).mono (drawn_below hD).size); have hR3 := Kd.R_below hR hb2; have hB3 := hB.trans (hb2.mono hB.size))
                          | (at_builtin; refine append_snap (w0 := w) w.heap.size rfl _ _ rfl (.slice A2 o2.length c2) o2 (k : Int) rfl rfl hR3 hB3 hB3.size (by omega) ?_; intro v1 w4 hR4 hB4 hS4))
                        go_roundw
                        case rel => exact ⟨j + 1, o2 ++ [(k : Int)], by omega, by go_num, HFk, hok2, hR4, hS4 _ _ (hsn.below hb2), hB4⟩
                        case measure => simp [intOf]; omega
                  · obtain rfl : j = sn.length := by omega
                    have HE := Lib.hid (show wIn l0 k sn sn = o2 by rw [hF.out, List.drop_length]; rfl)
                    clear hF
                    go_wp2
                    go_roundw
                    case rel => exact ⟨k + 1, o2, by omega, by go_num, Lib.hid (by rw [HK.out, HE.out]), hok, hR, hB⟩
                    case measure => simp [intOf]; omega
              · obtain rfl : k = l0.length := by omega
                have HE := Lib.hid (show wStep l0 l0.length 0 out0 = out by rw [hF.out, Nat.sub_self]; rfl)
                clear hF
                go_wp2
                go_roundw
                case rel => exact ⟨s + 1, out, by omega, by omega, by go_num, Lib.hid (by rw [HS.out, HE.out]), hok, hR, hB⟩
                case measure => simp [intOf]; omega
          · obtain rfl : s = most := by omega
            have HE := Lib.hid (show res = out by rw [hF.out, Nat.sub_self]; rfl)
            clear hF
            go_wp2
            go_ret
            exact ⟨_, rfl, by rw [HE.out]; exact hR, hB⟩
def recantref11_ways.f (l0 : List Int) (a1 a2 : Int) : Option (List Int) := if (∀ x ∈ l0, 0 ≤ x ∧ x < 4294967296) ∧ l0.length ≤ 6 ∧ 0 ≤ a1 ∧ a1 < (l0.length : Int) ∧ 0 ≤ a2 ∧ a2 ≤ 6 then some (waysF l0 a1 a2.toNat) else none
theorem recantref11_ways.calls (A0 : Option Addr) (c0 : Nat) (l0 : List Int) (a1 a2 : Int) (r : List Int) (w : World) (hr0 : Kd.C (Kd.int .u32) w A0 l0.length l0) (hc0 : l0.length ≤ c0) (h : recantref11_ways.f l0 a1 a2 = some r) :
    Calls Try.prog 41 #[.slice A0 l0.length c0, .int .i64 a1, .int .i64 a2] w fun e w' => ∃ v0_ : Value, e = .returned v0_ ∧ Kd.R (Kd.int .i64) 3 w' w.heap.size (fun _ => True) v0_ r ∧ Below w.heap.size w w' := by
  unfold recantref11_ways.f at h
  split at h
  case isFalse => cases h
  rename_i hx
  obtain ⟨h1, h2, h3, h4, h5, h6⟩ := hx
  obtain ⟨m, rfl⟩ := Int.eq_ofNat_of_zero_le h5
  cases h
  exact ways_any A0 c0 l0 a1 m w hr0 hc0 h1 h2 h3 h4 (by omega)
end Go.Proofs.Ytimbamimabdmcaa.P

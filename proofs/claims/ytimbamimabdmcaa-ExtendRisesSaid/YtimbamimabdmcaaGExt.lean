/- extend.All, extend.Count, extend.First, given: the rows that keep an order; nothing that lay has turned. -/
import Derived.Test.YtimbamimabdmcaaGColl
import Derived.Test.YtimbamimabdmcaaGCyc
import Derived.Test.YtimbamimabdmcaaGMayX
import Derived.Test.YtimbamimabdmcaaUNum
import Derived.LoopTactic
import Derived.WalkKit
import Derived.OwnWalk
import Derived.Outline
import Derived.Lib.Hide
namespace Go.Proofs.Ytimbamimabdmcaa.P
set_option linter.unusedVariables false
set_option linter.unusedSimpArgs false
open Go Go.RowKit Go.Shelf Go.Proofs.Ytimbamimabdmcaa.Range Go.Proofs.Ytimbamimabdmcaa.U Go.Proofs.YtimbamimabdmcaaW.PrintWords Go.Proofs.YtimbamimabdmcaaW.PrintLast Go.Proofs.YtimbamimabdmcaaW.PrintMore

/-- Why an order may not be. -/
def mayE (l0 : List Int) : Int := if mayB l0 = true then (if cycB l0 = true then 8 else 0) else 1
theorem mayX_any (A0 : Option Addr) (c0 : Nat) (l0 : List Int) (w : World) (hr0 : Kd.C (Kd.int .u32) w A0 l0.length l0) (hc0 : l0.length ≤ c0) (hx : InU l0) :
    Calls Try.prog 38 #[.slice A0 l0.length c0] w fun e w' => e = .returned (.int .i64 (mayE l0)) ∧ Below w.heap.size w w' := by
  unfold mayE mayB
  have HB := Boxed.new w 22 (.slice A0 l0.length c0)
  have hbl := (Below.refl _ w).alloc (Nat.le_refl _) (.cells #[.slice A0 l0.length c0] 22)
  by_cases hn : l0.length ≤ 6
  · have hd : decide (6 < (l0.length : Int)) = false := decide_eq_false (by omega)
    have hcall := contains_oddX A0 c0 l0.length l0 A0 c0 w.heap.size (w.alloc (.cells #[.slice A0 l0.length c0] 22)) (Kd.C_below hr0 hbl) hn hx HB
    have hcyc := cyclic_any A0 c0 l0 (w.alloc (.cells #[.slice A0 l0.length c0] 22)) (Kd.C_below hr0 hbl) hc0 hx hn
    rw [decide_eq_true hn, Bool.true_and]
    obtain ⟨q, hq⟩ : ∃ q, q = l0.any (fun x => decide (2 ^ l0.length ≤ x)) := ⟨_, rfl⟩
    obtain ⟨c, hcq⟩ : ∃ c, c = cycB l0 := ⟨_, rfl⟩
    rw [← hq] at hcall ⊢
    rw [← hcq] at hcyc ⊢
    have HC := Lib.hid hcall
    have HY := Lib.hid hcyc
    clear hcall hcyc hx hq hcq
    cases q with
    | true =>
      go_enter Try.func38, Try.ntmps38
      go_wp2_with (go_at_call 47; refine HC.out.mono ?_; rintro e w' ⟨rfl, rfl⟩)
      go_ret
      exact ⟨rfl, hbl⟩
    | false =>
      cases c with
      | true =>
        go_enter Try.func38, Try.ntmps38
        go_wp2_with (first | (go_at_call 47; refine HC.out.mono ?_; rintro e w' ⟨rfl, rfl⟩) | (go_at_call 51; refine HY.out.mono ?_; rintro e w' ⟨rfl, hB2⟩))
        go_ret
        exact ⟨rfl, hbl.trans (hB2.mono (by simp))⟩
      | false =>
        go_enter Try.func38, Try.ntmps38
        go_wp2_with (first | (go_at_call 47; refine HC.out.mono ?_; rintro e w' ⟨rfl, rfl⟩) | (go_at_call 51; refine HY.out.mono ?_; rintro e w' ⟨rfl, hB2⟩))
        go_ret
        exact ⟨rfl, hbl.trans (hB2.mono (by simp))⟩
  · have hd : decide (6 < (l0.length : Int)) = true := decide_eq_true (by omega)
    rw [decide_eq_false hn, Bool.false_and]
    clear hx
    go_enter Try.func38, Try.ntmps38
    go_wp2
    go_ret
    exact ⟨rfl, hbl⟩
theorem first_eq2 : ∀ n : Fin 7, ((2 : Int) ^ n.val - 1) % 4294967296 = 2 ^ n.val - 1 := by decide +kernel
/-- The iterator over all. -/
theorem all_any (A : Option Addr) (cA : Nat) (l0 : List Int) (w : World) (hn : l0.length ≤ 6) :
    Calls Try.prog 40 #[.slice A l0.length cA] w fun e w' => e = .returned (.func (.func 56) #[] #[.pointer (some ⟨w.heap.size + 2, 0, none⟩), .pointer (some ⟨w.heap.size + 1, 0, none⟩), .pointer (some ⟨w.heap.size, 0, none⟩)]) ∧
      w' = ((w.alloc (.cells #[.slice A l0.length cA] 22)).alloc (.cells #[.slice none 0 0] 23)).alloc (.cells #[.int .u32 (2 ^ l0.length - 1)] 35) := by
  have hf := Lib.hid (show ((2 : Int) ^ l0.length - 1) % 4294967296 = 2 ^ l0.length - 1 from first_eq2 ⟨l0.length, by omega⟩)
  go_enter Try.func40, Try.ntmps40
  go_wp2_with (go_at_call 53; refine (rows_makes _ _ _ _ _ _ _ _).mono ?_; rintro e w' ⟨rfl, rfl⟩)
  go_ret
  exact ⟨rfl, by rw [hf.out]⟩
theorem all_seq (A : Option Addr) (cA : Nat) (l0 : List Int) (w0 w : World) (hb : Below w0.heap.size w0 w) (hn : l0.length ≤ 6) (hu : InU l0) (hr0 : (Kd.int .u32).C w A l0.length l0) (hc0 : l0.length ≤ cA) (w' : World)
    (hw : w' = ((w.alloc (.cells #[.slice A l0.length cA] 22)).alloc (.cells #[.slice none 0 0] 23)).alloc (.cells #[.int .u32 (2 ^ l0.length - 1)] 35)) :
    Below w.heap.size w w' ∧ w'.heap.size = w.heap.size + 3 ∧ (∀ r, XR (w.heap.size + 2) (w.heap.size + 1) w.heap.size (eff l0.length A) none r → r < w'.heap.size) ∧
    SeqO Try.prog 56 #[.pointer (some ⟨w.heap.size + 2, 0, none⟩), .pointer (some ⟨w.heap.size + 1, 0, none⟩), .pointer (some ⟨w.heap.size, 0, none⟩)] (RepI w0.heap.size) (XR (w.heap.size + 2) (w.heap.size + 1) w.heap.size (eff l0.length A) none) (extR l0 l0.length []) w' := by
  have hB : Below w.heap.size w w' := by rw [hw]; exact below_alloc (below_alloc (below_alloc (Below.refl _ _) _) _) _
  have hz : w'.heap.size = w.heap.size + 3 := by rw [hw]; simp
  have hT := took_nil l0 hn
  have hat : RowsAt w' (w.heap.size + 2) (w.heap.size + 1) w.heap.size A none cA 0 (2 ^ l0.length - 1) l0 [] := by
    refine ⟨?_, ?_, ?_, Kd.C_below hr0 hB, Kd.C_nil _ _, hc0, Nat.le_refl _, fun ad e => Nat.lt_of_lt_of_le (C_eff_lt hr0 ad e) hB.size, fun ad e => by cases e⟩
    · have := Boxed.new ((w.alloc (.cells #[.slice A l0.length cA] 22)).alloc (.cells #[.slice none 0 0] 23)) 35 (.int .u32 (2 ^ l0.length - 1))
      rw [← hw] at this
      simpa using this
    · have := (Boxed.new (w.alloc (.cells #[.slice A l0.length cA] 22)) 23 (.slice none 0 0)).alloc (.cells #[.int .u32 (2 ^ l0.length - 1)] 35)
      rw [← hw] at this
      simpa using this
    · have := ((Boxed.new w 22 (.slice A l0.length cA)).alloc (.cells #[.slice none 0 0] 23)).alloc (.cells #[.int .u32 (2 ^ l0.length - 1)] 35)
      rw [← hw] at this
      exact this
  exact ⟨hB, hz, hat.lt, rows_seq l0 hu hn w0.heap.size l0.length [] (2 ^ l0.length - 1) (by simp) List.nodup_nil hT.inn hT.left w' _ _ _ A none cA 0 hat (by have := hb.size; omega)⟩
theorem mayE_zero {l0 : List Int} (h : mayE l0 = 0) : l0.length ≤ 6 ∧ cycB l0 = false := by
  unfold mayE at h
  split at h
  · rename_i hb
    split at h
    · cases h
    · rename_i hc
      unfold mayB at hb
      simp only [Bool.and_eq_true, decide_eq_true_eq] at hb
      exact ⟨hb.1, by simpa using hc⟩
  · cases h
theorem ext_len (l0 : List Int) (hn : l0.length ≤ 6) : (extR l0 l0.length []).length ≤ 46656 := by
  rw [ext_rows]
  refine Nat.le_trans (List.length_filter_le _ _) (Nat.le_trans (rows_len l0.length hn l0.length) (pow6_le _ hn))
def extend_All.f (l0 : List Int) : Option (List (List Int) × Int) := if (∀ x ∈ l0, 0 ≤ x ∧ x < 4294967296) then some (if mayE l0 = 0 then extR l0 l0.length [] else [], mayE l0) else none
def extend_Count.f (l0 : List Int) : Option (Int × Int) := if (∀ x ∈ l0, 0 ≤ x ∧ x < 4294967296) then some (if mayE l0 = 0 then ((extR l0 l0.length []).length : Int) else 0, mayE l0) else none
def extend_First.f (l0 : List Int) : Option (List Int × Int) := if (∀ x ∈ l0, 0 ≤ x ∧ x < 4294967296) then some (if mayE l0 = 0 then (extR l0 l0.length []).headD [] else [], mayE l0) else none
set_option maxHeartbeats 1000000 in
theorem extend_All.calls (A0 : Option Addr) (c0 : Nat) (l0 : List Int) (r1 : List (List Int)) (r2 : Int) (w : World) (hr0 : Kd.C (Kd.int .u32) w A0 l0.length l0) (hc0 : l0.length ≤ c0) (h : extend_All.f l0 = some (r1, r2)) :
    Calls Try.prog 18 #[.slice A0 l0.length c0] w fun e w' => ∃ v0_ : Value, e = .returned (.tuple #[v0_, .int .i64 r2]) ∧ Kd.N (Kd.slice 3 (Kd.int .i64)) 23 w' w.heap.size (fun k_ => (w.heap.size ≤ k_)) v0_ r1 ∧ Below w.heap.size w w' := by
  unfold extend_All.f at h
  split at h
  case isFalse => cases h
  rename_i hx
  have hm := mayX_any A0 c0 l0 w hr0 hc0 hx
  have hv := Option.some.inj h
  simp only [Prod.mk.injEq] at hv
  obtain ⟨h1, h2⟩ := hv
  rw [h2] at hm h1
  have HM := Lib.hid hm
  have HX := Lib.hid hx
  clear h hm hx
  by_cases h0 : r2 = 0
  · subst h0
    rw [if_pos rfl] at h1
    subst h1
    obtain ⟨hn, _⟩ := mayE_zero h2
    have HR := Lib.hid hr0
    clear h2 hr0
    go_enter Try.func18, Try.ntmps18
    go_wp2_with (first
      | (go_at_call 38; refine HM.out.mono ?_; clear HM; rintro e w1 ⟨rfl, hB1⟩)
      | (go_at_call 40; refine (all_any A0 c0 l0 _ hn).mono ?_; rintro e w2 ⟨rfl, hw2⟩; have HA := Lib.hid (all_seq A0 c0 l0 w w1 hB1 hn HX.out (Kd.C_below HR.out hB1) hc0 w2 hw2); clear hw2)
      | (go_at_call 39; refine (collect_any _ (Nat.le_trans (ext_len l0 hn) (by decide)) _ _ w w2 (hB1.trans (HA.out.1.mono hB1.size)) HA.out.2.2.2 HA.out.2.2.1).mono ?_; rintro e w3 ⟨v, rfl, hR, hB3⟩))
    go_ret2
    exact ⟨_, rfl, Kd.N_mono (Kd.R_N (Kd.R_bound hR)) (fun k hk => hk.2.1), hB3⟩
  · have hne : (r2 != 0) = true := by simpa using h0
    rw [if_neg h0] at h1
    subst h1
    clear h2
    go_enter Try.func18, Try.ntmps18
    go_wp2_with (go_at_call 38; refine HM.out.mono ?_; rintro e w1 ⟨rfl, hB1⟩)
    go_ret2
    exact ⟨_, rfl, Kd.N_nil _ _ _ _ _, hB1⟩

def CntI (w0 : World) (B : Nat) (pre : List (List Int)) (W : World) : Prop := Boxed W B 3 (.int .i64 (pre.length : Int)) ∧ Below w0.heap.size w0 W
theorem CntI.ab {w0 : World} {B n : Nat} (hn : w0.heap.size ≤ n) : AbG n (CntI w0 B) := by
  rintro s A C row ⟨h1, h3⟩ hg hr
  exact ⟨h1.kept hg (not_cells hr h1), h3.grown hg h3.size (fun k e => by have := (hr k e).1; omega)⟩
theorem CntI.own {w0 : World} {B n : Nat} : OwnG n (CntI w0 B) (fun _ _ r => r = B) :=
  ⟨fun s A r h e => by subst e; exact ⟨_, h.1, rfl⟩, fun s A C row h hg hr r e => e⟩
attribute [local go_sem] Oper.semAt_some wide_fn wide_depth
set_option maxRecDepth 100000 in
set_option maxHeartbeats 2000000 in
theorem count_in (A0 : Option Addr) (c0 : Nat) (l0 : List Int) (w : World) (hr0 : Kd.C (Kd.int .u32) w A0 l0.length l0) (hc0 : l0.length ≤ c0) (hx : InU l0) :
    CallsIn Fence.wide 0 Try.prog 19 #[.slice A0 l0.length c0] w fun e w' => e = .returned (.tuple #[.int .i64 (if mayE l0 = 0 then ((extR l0 l0.length []).length : Int) else 0), .int .i64 (mayE l0)]) ∧ Below w.heap.size w w' := by
  have hm := (callsIn_wide (n := 0)).2 (mayX_any A0 c0 l0 w hr0 hc0 hx)
  obtain ⟨r2, h2⟩ : ∃ r2, r2 = mayE l0 := ⟨_, rfl⟩
  rw [← h2] at hm ⊢
  have HM := Lib.hid hm
  have HX := Lib.hid hx
  clear hm hx
  by_cases h0 : r2 = 0
  · subst h0
    rw [if_pos rfl]
    obtain ⟨hn, _⟩ := mayE_zero h2.symm
    have HR := Lib.hid hr0
    clear h2 hr0
    obtain ⟨L, hL⟩ : ∃ L, L = extR l0 l0.length [] := ⟨_, rfl⟩
    have hlen : L.length ≤ 46656 := by rw [hL]; exact ext_len l0 hn
    rw [← hL]
    have HL := Lib.hid hL
    clear hL
    refine callsIn_of_wp_marks Try.func19 rfl trivial ?_ rfl
    simp only [Try.ntmps19, List.size_toArray, List.length_cons, List.length_nil, Nat.reduceAdd, Nat.reduceSub, Array.replicate_succ, Array.replicate_zero, List.push_toArray, List.append_toArray, List.nil_append, List.cons_append]
    gi_wp2_with (first
      | (gi_at_call 38; refine HM.out.mono ?_; clear HM; rintro e w1 ⟨rfl, hB1⟩)
      | (gi_at_call 40; refine (callsIn_wide.2 (all_any A0 c0 l0 _ hn)).mono ?_; rintro e w2 ⟨rfl, hw2⟩; have HW2 := Lib.hid hw2; clear hw2))
    have hBx : Below w.heap.size w (w1.alloc (.cells #[.int .i64 0] 3)) := below_alloc hB1 _
    have hz1 := hB1.size
    obtain ⟨h3, h4, h5, h6⟩ := all_seq A0 c0 l0 w _ hBx hn HX.out (Kd.C_below HR.out hBx) hc0 w2 HW2.out
    rw [← HL.out] at h6
    have hbx := (Boxed.new w1 3 (.int .i64 0))
    have hbx2 : Boxed w2 w1.heap.size 3 (.int .i64 0) := (h3.block _ hbx.lt).trans hbx
    simp only [World.size_alloc] at h3 h4 h5 h6
    have hB2 := hBx.trans (h3.mono (by omega))
    refine wpIn_rangeO (gf := 56) (lb := #[.pointer (some ⟨w1.heap.size + 1 + 2, 0, none⟩), .pointer (some ⟨w1.heap.size + 1 + 1, 0, none⟩), .pointer (some ⟨w1.heap.size + 1, 0, none⟩)]) rfl (enters_of Try.func56 (by kernel_rfl) rfl) h6 rfl (fun x v A B row h hg hr => RepI.grown h hg hr)
      (CntI w w1.heap.size) (fun _ _ r => r = w1.heap.size) (fun _ _ _ => False) (CntI.ab (by omega)) CntI.own (fun _ _ _ _ _ h _ _ => h)
      ⟨hbx2, hB2⟩ ?hX ?hround ?hdone ?hstop
    case hX =>
      rintro r hr rfl
      rcases hr with h | h | h | ⟨ad, h7, h8⟩ | ⟨ad, h7, _⟩
      · omega
      · omega
      · omega
      · have := C_eff_lt HR.out ad h7; omega
      · cases h7
    case hround =>
      intro l pre x v W hpre hrep hnot hI hsz
      gi_wp2
      refine ⟨by first | trivial | rfl, ?_⟩
      rintro Wb hrepb hnotb ⟨hvo, hBo⟩ hszb
      have hc := hvo.cell
      have hf := hvo.frozen
      have hlen2 : pre.length + 1 ≤ 46656 := by have := List.IsPrefix.length_le hpre; simp at this; omega
      gi_wp2
      refine ⟨(KeepsOthers.setCell _ _ _).from _, ⟨?_, hBo.setCell (p := ⟨w1.heap.size, 0, none⟩) (by dsimp only; omega) _⟩, ⟨rfl, rfl, rfl, by simp, fun k hk hn => Below.heap_setCell Wb ⟨w1.heap.size, 0, none⟩ _ k hn⟩, fun r e => .inl e⟩
      have := hvo.set (.int .i64 ((pre.length : Int) + 1))
      simpa using this
    case hdone =>
      rintro D W hD ⟨hv, hBW⟩ hK
      have hc := hv.cell
      gi_wp2
      refine ⟨by simp, .inl ⟨_, _, rfl, run_takeDeferred hK, ?_⟩⟩
      refine ⟨.tuple #[.int .i64 (L.length : Int), .int .i64 0], by simp [results, Try.results19, go_sem], rfl, ?_⟩
      exact hBW.grown (grownBy_putObj' W D _) hBW.size (fun k e => by cases e; omega)
    case hstop =>
      rintro D c pre W _ _ h _
      exact h.elim
  · have hne : (r2 != 0) = true := by simpa using h0
    rw [if_neg h0]
    clear h2
    refine callsIn_of_wp_marks Try.func19 rfl trivial ?_ rfl
    simp only [Try.ntmps19, List.size_toArray, List.length_cons, List.length_nil, Nat.reduceAdd, Nat.reduceSub, Array.replicate_succ, Array.replicate_zero, List.push_toArray, List.append_toArray, List.nil_append, List.cons_append]
    gi_wp2_with (gi_at_call 38; refine HM.out.mono ?_; rintro e w1 ⟨rfl, hB1⟩)
    exact ⟨.tuple #[.int .i64 0, .int .i64 r2], by simp [results, Try.results19, go_sem], rfl, hB1⟩
theorem extend_Count.calls (A0 : Option Addr) (c0 : Nat) (l0 : List Int) (r1 : Int) (r2 : Int) (w : World) (hr0 : Kd.C (Kd.int .u32) w A0 l0.length l0) (hc0 : l0.length ≤ c0) (h : extend_Count.f l0 = some (r1, r2)) :
    Calls Try.prog 19 #[.slice A0 l0.length c0] w fun e w' => e = .returned (.tuple #[.int .i64 r1, .int .i64 r2]) ∧ Below w.heap.size w w' := by
  unfold extend_Count.f at h
  split at h
  case isFalse => cases h
  rename_i hx
  have hv := Option.some.inj h
  simp only [Prod.mk.injEq] at hv
  obtain ⟨rfl, rfl⟩ := hv
  exact callsIn_wide.1 (count_in A0 c0 l0 w hr0 hc0 hx)

def FstI (w0 : World) (B : Nat) (pre : List (List Int)) (W : World) : Prop := pre = [] ∧ Boxed W B 23 (.slice none 0 0) ∧ Boxed W (B + 1) 24 (.int .i64 0) ∧ Below w0.heap.size w0 W
def FstX (w0 : World) (B : Nat) (c : Code) (pre : List (List Int)) (W : World) : Prop := c = .ret ∧ ∃ x v, pre = [x] ∧ Boxed W B 23 v ∧ Boxed W (B + 1) 24 (.int .i64 0) ∧ Kd.R (Kd.int .i64) 3 W w0.heap.size (fun _ => True) v x ∧ Below w0.heap.size w0 W
theorem FstI.ab {w0 : World} {B n : Nat} (hn : w0.heap.size ≤ n) : AbG n (FstI w0 B) := by
  rintro s A C row ⟨h0, h1, h2, h3⟩ hg hr
  exact ⟨h0, h1.kept hg (not_cells hr h1), h2.kept hg (not_cells hr h2), h3.grown hg h3.size (fun k e => by have := (hr k e).1; omega)⟩
theorem FstX.ab {w0 : World} {B n : Nat} (hn : w0.heap.size ≤ n) (c : Code) : AbG n (FstX w0 B c) := by
  rintro s A C row ⟨h0, x, v, h1, h2, h3, h4, h5⟩ hg hr
  exact ⟨h0, x, v, h1, h2.kept hg (not_cells hr h2), h3.kept hg (not_cells hr h3), RepI.grown (b0 := w0.heap.size) h4 hg hr, h5.grown hg h5.size (fun k e => by have := (hr k e).1; omega)⟩
theorem FstI.own {w0 : World} {B n : Nat} : OwnG n (FstI w0 B) (fun _ _ r => r = B ∨ r = B + 1) :=
  ⟨fun s A r h e => by rcases e with rfl | rfl; exact ⟨_, h.2.1, rfl⟩; exact ⟨_, h.2.2.1, rfl⟩, fun s A C row h hg hr r e => e⟩
set_option maxRecDepth 100000 in
set_option maxHeartbeats 2000000 in
theorem first_in (A0 : Option Addr) (c0 : Nat) (l0 : List Int) (w : World) (hr0 : Kd.C (Kd.int .u32) w A0 l0.length l0) (hc0 : l0.length ≤ c0) (hx : InU l0) :
    CallsIn Fence.wide 0 Try.prog 20 #[.slice A0 l0.length c0] w fun e w' => ∃ v0_ : Value, e = .returned (.tuple #[v0_, .int .i64 (mayE l0)]) ∧ Kd.R (Kd.int .i64) 3 w' w.heap.size (fun _ => True) v0_ (if mayE l0 = 0 then (extR l0 l0.length []).headD [] else []) ∧ Below w.heap.size w w' := by
  have hBx : Below w.heap.size w ((w.alloc (.cells #[.slice none 0 0] 23)).alloc (.cells #[.int .i64 0] 24)) := below_alloc (below_alloc (Below.refl _ _) _) _
  have hm := (callsIn_wide (n := 0)).2 (mayX_any A0 c0 l0 _ (Kd.C_below hr0 hBx) hc0 hx)
  obtain ⟨r2, h2⟩ : ∃ r2, r2 = mayE l0 := ⟨_, rfl⟩
  rw [← h2] at hm ⊢
  have HM := Lib.hid hm
  have HX := Lib.hid hx
  have hb1 := ((Boxed.new w 23 (.slice none 0 0)).alloc (.cells #[.int .i64 0] 24))
  have hb2 := Boxed.new (w.alloc (.cells #[.slice none 0 0] 23)) 24 (.int .i64 0)
  rw [World.size_alloc] at hb2
  clear hm hx
  by_cases h0 : r2 = 0
  · subst h0
    rw [if_pos rfl]
    obtain ⟨hn, hcy⟩ := mayE_zero h2.symm
    have HR := Lib.hid hr0
    clear h2 hr0
    obtain ⟨L, hL⟩ : ∃ L, L = extR l0 l0.length [] := ⟨_, rfl⟩
    have hne : L ≠ [] := by rw [hL]; exact of_decide_eq_false hcy
    rw [← hL]
    have HL := Lib.hid hL
    have HNE := Lib.hid hne
    clear hL hcy hne
    refine callsIn_of_wp_marks Try.func20 rfl trivial ?_ rfl
    simp only [Try.ntmps20, List.size_toArray, List.length_cons, List.length_nil, Nat.reduceAdd, Nat.reduceSub, Array.replicate_succ, Array.replicate_zero, List.push_toArray, List.append_toArray, List.nil_append, List.cons_append]
    gi_wp2_with (first
      | (gi_at_call 38; refine HM.out.mono ?_; clear HM; rintro e w1 ⟨rfl, hB1⟩)
      | (gi_at_call 40; refine (callsIn_wide.2 (all_any A0 c0 l0 _ hn)).mono ?_; rintro e w2 ⟨rfl, hw2⟩; have HW2 := Lib.hid hw2; clear hw2))
    have hs1 : w.heap.size + 2 ≤ w1.heap.size := by have := hB1.size; simp at this; omega
    have hBw : Below w.heap.size w w1 := hBx.trans (hB1.mono (by simp; omega))
    have hb1' : Boxed w1 w.heap.size 23 (.slice none 0 0) := (hB1.block _ (by simp; omega)).trans hb1
    have hb2' : Boxed w1 (w.heap.size + 1) 24 (.int .i64 0) := (hB1.block _ (by simp)).trans hb2
    obtain ⟨h3, h4, h5, h6⟩ := all_seq A0 c0 l0 w w1 hBw hn HX.out (Kd.C_below HR.out hBw) hc0 w2 HW2.out
    rw [← HL.out] at h6
    have hB2 := hBw.trans (h3.mono (by omega))
    refine wpIn_rangeO (gf := 56) (lb := #[.pointer (some ⟨w1.heap.size + 2, 0, none⟩), .pointer (some ⟨w1.heap.size + 1, 0, none⟩), .pointer (some ⟨w1.heap.size, 0, none⟩)]) rfl (enters_of Try.func56 (by kernel_rfl) rfl) h6 rfl (fun x v A B row h hg hr => RepI.grown h hg hr)
      (FstI w w.heap.size) (fun _ _ r => r = w.heap.size ∨ r = w.heap.size + 1) (FstX w w.heap.size) (FstI.ab (by omega)) FstI.own (FstX.ab (by omega))
      ⟨rfl, (h3.block _ hb1'.lt).trans hb1', (h3.block _ hb2'.lt).trans hb2', hB2⟩ ?hX ?hround ?hdone ?hstop
    case hX =>
      rintro r hr he
      rcases hr with h | h | h | ⟨ad, h7, h8⟩ | ⟨ad, h7, _⟩
      · omega
      · omega
      · omega
      · have := C_eff_lt HR.out ad h7; omega
      · cases h7
    case hround =>
      intro l pre x v W hpre hrep hnot hI hsz
      obtain ⟨Av, cv, rfl⟩ := Kd.R_slice hrep
      gi_wp2
      refine ⟨by first | trivial | rfl, ?_⟩
      rintro Wb hrepb hnotb ⟨rfl, hv1, hv2, hBo⟩ hszb
      have hf1 := hv1.frozen
      have hf2 := hv2.frozen
      have hc1 := hv1.cell
      have hc2 := hv2.cell
      gi_wp2
      refine ⟨((KeepsOthers.setCell _ _ _).trans (KeepsOthers.setCell _ _ _)).from _, rfl, x, _, rfl, (hv1.set (.slice Av x.length cv)).other (by omega) _, (hv2.other (by omega) _).set _, ?_, (hBo.setCell (p := ⟨w.heap.size, 0, none⟩) (Nat.le_refl _) _).setCell (p := ⟨w.heap.size + 1, 0, none⟩) (by dsimp only; omega) _⟩
      have hr1 := Kd.R_set (v := .slice Av x.length cv) hrepb hv1 (by decide) 0 (.slice Av x.length cv)
      exact Kd.R_set hr1 (hv2.other (by omega) _) (by decide) 0 _
    case hdone =>
      rintro D W hD ⟨hL0, _⟩ hK
      exact absurd hL0 HNE.out
    case hstop =>
      rintro D c pre W hD hpre ⟨rfl, x, v, rfl, hv1, hv2, hR, hBW⟩ hK
      have hg := grownBy_putObj' W D (.deferred none)
      have hr : ∀ r, some D = some r → D ≤ r ∧ ∃ o : Obj, W.heap[r]? = some o ∧ o.isCells = false := fun r e => by cases e; exact ⟨Nat.le_refl _, _, hK, rfl⟩
      have hv1' := hv1.kept hg (not_cells hr hv1)
      have hv2' := hv2.kept hg (not_cells hr hv2)
      have hc1 := hv1'.cell
      have hc2 := hv2'.cell
      have hR' := RepI.grown (b0 := w.heap.size) hR hg hr
      have hB' := hBW.grown hg hBW.size (fun k e => by cases e; omega)
      obtain ⟨Av, cv, rfl⟩ := Kd.R_slice hR
      gi_wp2
      refine ⟨by simp, .inl ⟨_, _, rfl, run_takeDeferred hK, ?_⟩⟩
      refine ⟨.tuple #[.slice Av x.length cv, .int .i64 0], by simp [results, Try.results20, go_sem, hc1, hc2], _, rfl, ?_, hB'⟩
      obtain ⟨t, ht⟩ := hpre
      rw [← ht]
      exact hR'
  · have hne : (r2 != 0) = true := by simpa using h0
    rw [if_neg h0]
    clear h2 hr0
    refine callsIn_of_wp_marks Try.func20 rfl trivial ?_ rfl
    simp only [Try.ntmps20, List.size_toArray, List.length_cons, List.length_nil, Nat.reduceAdd, Nat.reduceSub, Array.replicate_succ, Array.replicate_zero, List.push_toArray, List.append_toArray, List.nil_append, List.cons_append]
    have hs : w.heap.size + 2 = ((w.alloc (.cells #[.slice none 0 0] 23)).alloc (.cells #[.int .i64 0] 24)).heap.size := by simp
    have HS := Lib.hid hs
    clear hs
    gi_wp2_with (gi_at_call 38; refine HM.out.mono ?_; rintro e w1 ⟨rfl, hB1⟩; have hb1' : Boxed w1 w.heap.size 23 (.slice none 0 0) := (hB1.block _ (by rw [← HS.out]; omega)).trans hb1; have hb2' : Boxed w1 (w.heap.size + 1) 24 (.int .i64 0) := (hB1.block _ (by rw [← HS.out]; omega)).trans hb2; have hf1 := hb1'.frozen; have hf2 := hb2'.frozen; have hc1 := hb1'.cell; have hc2 := hb2'.cell)
    have hBw : Below w.heap.size w w1 := hBx.trans (hB1.mono (by rw [← HS.out]; omega))
    have hv1 := (hb1'.set (.slice none 0 0)).other (B' := w.heap.size + 1) (by omega) (.int .i64 r2)
    have hv2 := (hb2'.other (B' := w.heap.size) (by omega) (.slice none 0 0)).set (.int .i64 r2)
    have hd1 := hv1.cell
    have hd2 := hv2.cell
    exact ⟨.tuple #[.slice none 0 0, .int .i64 r2], by simp [results, Try.results20, go_sem, hd1, hd2], _, rfl, Kd.R_nil _ _ _ _ _, (hBw.setCell (p := ⟨w.heap.size, 0, none⟩) (Nat.le_refl _) _).setCell (p := ⟨w.heap.size + 1, 0, none⟩) (by dsimp only; omega) _⟩
theorem extend_First.calls (A0 : Option Addr) (c0 : Nat) (l0 : List Int) (r1 : List Int) (r2 : Int) (w : World) (hr0 : Kd.C (Kd.int .u32) w A0 l0.length l0) (hc0 : l0.length ≤ c0) (h : extend_First.f l0 = some (r1, r2)) :
    Calls Try.prog 20 #[.slice A0 l0.length c0] w fun e w' => ∃ v0_ : Value, e = .returned (.tuple #[v0_, .int .i64 r2]) ∧ Kd.R (Kd.int .i64) 3 w' w.heap.size (fun _ => True) v0_ r1 ∧ Below w.heap.size w w' := by
  unfold extend_First.f at h
  split at h
  case isFalse => cases h
  rename_i hx
  have hv := Option.some.inj h
  simp only [Prod.mk.injEq] at hv
  obtain ⟨rfl, rfl⟩ := hv
  exact callsIn_wide.1 (first_in A0 c0 l0 w hr0 hc0 hx)
end Go.Proofs.Ytimbamimabdmcaa.P

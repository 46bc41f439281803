/- varint.Put, given: its bytes are putN's; nothing that lay has turned. -/
import Derived.Test.YthkpocgbinmeiaaDoorBGPut
import Derived.Test.YthkpocgbinmeiaaDoorRange
import Derived.Test.YthkpocgbinmeiaaDoorUNum
import Derived.Shelf.Abstract
import Derived.Shelf.RegionOpen
import Derived.OwnWalkIn
import Derived.TacticsInMore
import Derived.LoopNIn
import Derived.LoopIn
import Derived.Lib.Hide
import Derived.Outline
import Derived.Maps.AppendAt
namespace Go.Proofs.YthkpocgbinmeiaaDoor.P
set_option linter.unusedVariables false
set_option linter.unusedSimpArgs false
open Go Go.RowKit Go.Shelf Go.Proofs.YthkpocgbinmeiaaDoor.Range Go.Proofs.YthkpocgbinmeiaaDoor.U Go.Proofs.YthkpocgbinmeiaaDoorW.PrintWords Go.Proofs.YthkpocgbinmeiaaDoorW.PrintLast Go.Proofs.YthkpocgbinmeiaaDoorW.PrintMore
attribute [local go_sem] Oper.semAt_some wide_fn wide_depth

/-- A number's 7 bits at a time, each with whether there is more. -/
def septN (n : Nat) : List (Int × Bool) := if h : n / 128 = 0 then [((n % 128 : Nat), false)] else ((n % 128 : Nat), true) :: septN (n / 128)
termination_by n
decreasing_by omega
/-- A number's bytes. -/
def putN (n : Nat) : List Int := if h : n / 128 = 0 then [((n % 128 : Nat) : Int)] else ((n % 128 + 128 : Nat) : Int) :: putN (n / 128)
termination_by n
decreasing_by omega
def byteOf (x : Int × Bool) : Int := if x.2 then x.1 + 128 else x.1
theorem putN_sept (n : Nat) : putN n = (septN n).map byteOf := by
  fun_induction putN n with
  | case1 n h => rw [septN, dif_pos h]; simp [byteOf]
  | case2 n h ih => rw [septN, dif_neg h, ih]; simp [byteOf]
def leftOf (W : World) (B : Nat) : Nat := match W.cell? ⟨B, 0, none⟩ with | some (.int _ m) => m.toNat | _ => 0
theorem leftOf_eq {W : World} {B t : Nat} {m : Int} (h : Boxed W B t (.int .u64 m)) : leftOf W B = m.toNat := by unfold leftOf; rw [h.cell]

theorem grownBy_drew (W : World) : W.grownBy W.drew none := ⟨rfl, rfl, rfl, Nat.le_refl _, fun _ _ _ => rfl⟩
theorem septets1 (l : Nat) (Bn n0 : Nat) (hB0 : n0 ≤ Bn) (J Jx : List (Int × Bool) → World → Prop) (W : World) (hJ : AbI (· = Bn) W.heap.size J) (n : Nat) (hn : n < 18446744073709551616)
    (hY : ∀ pre x W1, pre ++ [x] <+: septN n → J pre W1 → YieldAt Fence.wide 0 Tryd.prog l #[.int .u8 x.1, .bool x.2] W1 fun e W' =>
      (e = .returned (.bool true) ∧ J (pre ++ [x]) W' ∧ Kp (· = Bn) n0 W1 W') ∨ (e = .returned (.bool false) ∧ Jx (pre ++ [x]) W'))
    (hb : Boxed W Bn 36 (.int .u64 n)) (h0 : J [] W) :
    CallsIn Fence.wide 0 Tryd.prog 83 #[.func (.yield l) #[] #[], .pointer (some ⟨Bn, 0, none⟩)] W fun e W' => (∃ v, e = .returned v) ∧ (J (septN n) W' ∨ ∃ pre, pre <+: septN n ∧ Jx pre W') := by
  refine callsIn_of_wp Tryd.func83 rfl trivial ?_ rfl
  simp only [Tryd.ntmps83, List.size_toArray, List.length_cons, List.length_nil, Nat.reduceAdd, Nat.reduceSub, Array.replicate_succ, Array.replicate_zero, List.push_toArray, List.append_toArray, List.nil_append, List.cons_append]
  gi_wp2
  gi_loopw [3] (fun _ wr => ∃ (pre : List (Int × Bool)) (m : Nat), septN n = pre ++ septN m ∧ m < 18446744073709551616 ∧ Boxed wr Bn 36 (.int .u64 m) ∧ J pre wr)
    (fun _ wr => leftOf wr Bn)
  case atStart => exact ⟨[], n, rfl, hn, hb, h0⟩
  case round =>
    obtain ⟨pre, m, hx, hm, hbm, hJs⟩ := hrel
    have hc := hbm.cell
    have hf := hbm.frozen
    have hJd : J pre wr.drew := hJ.1 pre wr wr.drew none hJs (grownBy_drew wr) (fun r e => by cases e)
    have hmix : Tryd.prog.follows .mixedOrders = true := by kernel_rfl
    have hand := Lib.hid (and127u m hm)
    have hbd : Boxed wr.drew Bn 36 (.int .u64 m) := hbm
    by_cases hz : m / 128 = 0
    · have hsept : septN m = [(((m % 128 : Nat) : Int), false)] := by rw [septN, dif_pos hz]
      have hd : decide (0 < (m : Int) / 128) = false := decide_eq_false (by omega)
      have he : ((m : Int) / 128 == 0) = true := by simp; omega
      obtain ⟨fn, tmps, assign, body, hy, hR⟩ := hY pre (((m % 128 : Nat) : Int), false) wr.drew (by rw [hx, hsept]; exact List.prefix_refl _) hJd
      dsimp only at hy
      rw [← hand.out] at hy
      have HX := Lib.hid hx
      have HS := Lib.hid hsept
      clear hx hsept hY hz hand
      gi_wp2
      gi_region_o
      all_goals gi_wp2
      refine hR.mono ?_
      rintro e W3 (⟨rfl, hJ3, hk3⟩ | ⟨rfl, hJx3⟩)
      · gi_wp2
        refine bodyPost_ret (results_none rfl _ _ _) rfl ?_
        exact ⟨⟨_, rfl⟩, .inl (by rw [HX.out, HS.out]; exact hJ3)⟩
      · gi_wp2
        refine bodyPost_ret (results_none rfl _ _ _) rfl ?_
        exact ⟨⟨_, rfl⟩, .inr ⟨_, by rw [HX.out, HS.out]; exact List.prefix_refl _, hJx3⟩⟩
    · have hsept : septN m = (((m % 128 : Nat) : Int), true) :: septN (m / 128) := by rw [septN, dif_neg hz]
      have hd : decide (0 < (m : Int) / 128) = true := decide_eq_true (by omega)
      have he : ((m : Int) / 128 == 0) = false := by simp; omega
      obtain ⟨fn, tmps, assign, body, hy, hR⟩ := hY pre (((m % 128 : Nat) : Int), true) wr.drew (by rw [hx, hsept]; exact ⟨septN (m / 128), by simp⟩) hJd
      dsimp only at hy
      rw [← hand.out] at hy
      have HX := Lib.hid hx
      have HS := Lib.hid hsept
      clear hx hsept hY hand
      gi_wp2
      gi_region_o
      all_goals gi_wp2
      refine hR.mono ?_
      rintro e W3 (⟨rfl, hJ3, hk3⟩ | ⟨rfl, hJx3⟩)
      · have hb3 : Boxed W3 Bn 36 (.int .u64 m) := (hk3.priv Bn rfl).trans hbd
        have hc3 := hb3.cell
        have hf3 := hb3.frozen
        gi_wp2
        go_roundw
        case rel => exact ⟨pre ++ [(((m % 128 : Nat) : Int), true)], m / 128, by rw [HX.out, HS.out]; simp, by omega, hb3.set _, hJ.2 _ _ Bn _ rfl hJ3⟩
        case measure => rw [leftOf_eq hbm, leftOf_eq (hb3.set _)]; simp; omega
      · gi_wp2
        refine bodyPost_ret (results_none rfl _ _ _) rfl ?_
        exact ⟨⟨_, rfl⟩, .inr ⟨_, by rw [HX.out, HS.out]; exact ⟨septN (m / 128), by simp⟩, hJx3⟩⟩

theorem septN_lo (n : Nat) : ∀ x ∈ septN n, 0 ≤ x.1 ∧ x.1 < 128 := by
  fun_induction septN n with
  | case1 n h => intro x hx; simp at hx; subst hx; constructor <;> dsimp only <;> omega
  | case2 n h ih => intro x hx; simp at hx; rcases hx with rfl | hx; (constructor <;> dsimp only <;> omega); exact ih x hx
theorem septN_len (k : Nat) : ∀ n, n < 128 ^ k → 0 < k → (septN n).length ≤ k := by
  induction k with
  | zero => intro n _ h; omega
  | succ k ih =>
    intro n hn _
    rw [septN]
    split
    · simp
    · rename_i h
      have hp : 128 ^ (k + 1) = 128 ^ k * 128 := rfl
      have h2 : n / 128 < 128 ^ k := by rw [hp] at hn; omega
      have h3 : 0 < k := by
        rcases Nat.eq_zero_or_pos k with rfl | h3
        · simp at h2; omega
        · exact h3
      have := ih _ h2 h3
      simp; omega
theorem septN_len10 (n : Nat) (hn : n < 18446744073709551616) : (septN n).length ≤ 10 := septN_len 10 n (by omega) (by omega)

/-- The iterator's contract. -/
theorem septets_seq (w : World) (Bn n0 : Nat) (hB0 : n0 ≤ Bn) (n : Nat) (hn : n < 18446744073709551616) (hb : Boxed w Bn 36 (.int .u64 n)) :
    Seq Tryd.prog 83 #[.pointer (some ⟨Bn, 0, none⟩)] (fun x : Int × Bool => #[.int .u8 x.1, .bool x.2]) (· = Bn) n0 (septN n) w :=
  fun l J Jx W hW hJ _ hY h0 => septets1 l Bn n0 hB0 J Jx W hJ n hn hY ((hW.block Bn hb.lt).trans hb) h0
theorem septets_in (n : Int) (w : World) : CallsIn Fence.wide 0 Tryd.prog 51 #[.int .u64 n] w fun e w' => e = .returned (.func (.func 83) #[] #[.pointer (some ⟨w.heap.size, 0, none⟩)]) ∧ w' = w.alloc (.cells #[.int .u64 n] 36) := by
  refine callsIn_of_wp Tryd.func51 rfl trivial ?_ rfl
  simp only [Tryd.ntmps51, List.size_toArray, List.length_cons, List.length_nil, Nat.reduceAdd, Nat.reduceSub, Array.replicate_succ, Array.replicate_zero, List.push_toArray, List.append_toArray, List.nil_append, List.cons_append]
  gi_wp2
  go_ret
  exact ⟨rfl, rfl⟩
theorem clip_in (A : Option Addr) (n c : Nat) (hc : n ≤ c) (hm : c ≤ 9223372036854775807) (w : World) : CallsIn Fence.wide 0 Tryd.prog 52 #[.slice A n c] w fun e w' => e = .returned (.slice A n n) ∧ w' = w := by
  refine callsIn_of_wp Tryd.func52 rfl trivial ?_ rfl
  simp only [Tryd.ntmps52, List.size_toArray, List.length_cons, List.length_nil, Nat.reduceAdd, Nat.reduceSub, Array.replicate_succ, Array.replicate_zero, List.push_toArray, List.append_toArray, List.nil_append, List.cons_append]
  gi_wp2
  go_ret
  exact ⟨rfl, rfl⟩

theorem infoByte : (Tryd.prog.info? 5).map (fun i => (i.zero, i.size, i.bytes)) = some (some (.int .u8 0), 1, 1) := by kernel_rfl
/-- What lies between two rounds. -/
def PutI (w : World) (pre : List (Int × Bool)) (W : World) : Prop :=
  (∃ v, Boxed W w.heap.size 23 v ∧ W.ownsRow w.heap.size 5 1 v pre.length (nums .u8 (pre.map byteOf))) ∧ Below w.heap.size w W ∧ ∃ u, Boxed W (w.heap.size + 1) 36 u
theorem box_row {A : World} {B t : Nat} {v : Value} (h : Boxed A B t v) {row : Option Nat} (hr : ∀ r, row = some r → ∃ o : Obj, A.heap[r]? = some o ∧ o.isCells = false) : some B ≠ row := by
  intro e
  obtain ⟨o, h1, h2⟩ := hr B e.symm
  rw [show A.heap[B]? = _ from h] at h1
  cases h1
  simp [Obj.isCells] at h2
theorem own_row {A : World} {base e size n : Nat} {v : Value} {xs : List Value} (h : A.ownsRow base e size v n xs) {row : Option Nat} (hr : ∀ r, row = some r → ∃ o : Obj, A.heap[r]? = some o ∧ o.isCells = false) : v.ownBlock = none ∨ v.ownBlock ≠ row := by
  rcases h.2 with ⟨rfl, _⟩ | ⟨g, cap, cur, rfl, _, hg, _⟩
  · exact .inl rfl
  · refine .inr fun e => ?_
    obtain ⟨o, h1, h2⟩ := hr g (by rw [← e]; rfl)
    rw [hg] at h1
    cases h1
    simp [Obj.isCells] at h2
theorem PutI.ab (w : World) (n : Nat) (hn : w.heap.size ≤ n) : AbO (· = w.heap.size + 1) n (PutI w) := by
  constructor
  · rintro s A B row ⟨⟨v, hv, ho⟩, hB, u, hu⟩ hg hr
    have hr' : ∀ r, row = some r → ∃ o : Obj, A.heap[r]? = some o ∧ o.isCells = false := fun r e => (hr r e).2
    exact ⟨⟨v, hv.kept hg (box_row hv hr'), ho.kept hg (own_row ho hr')⟩, hB.grown hg hB.size (fun k e => by have := (hr k e).1; omega), u, hu.kept hg (box_row hu hr')⟩
  · rintro s A r x rfl ⟨⟨v, hv, ho⟩, hB, u, hu⟩
    exact ⟨⟨v, hv.other (by omega) x, ho.kept (grownBy_setCell' A _ x) (.inr (hu.not_row (by decide) ho).symm)⟩, hB.setCell (p := ⟨w.heap.size + 1, 0, none⟩) (by simp) _, x, hu.set x⟩

theorem V_of_own {W : World} {base e n c : Nat} {A : Option Addr} {xs : List Int} (h : W.ownsRow base e 1 (.slice A n c) xs.length (nums .u8 xs)) : Kd.V (Kd.int .u8) e W base (fun k => base ≤ k) (.slice A n n) xs := by
  have hR := Kd.R_of_own (enc := Value.int .u8) (h1 := fun _ => rfl) (ok := fun k => base ≤ k) h (fun k hk => (h.lt k hk).1)
  obtain ⟨hn, _, hF⟩ := Kd.V_at (Kd.R_V (base' := base) hR)
  subst hn
  exact ⟨A, _, rfl, Nat.le_refl _, hF⟩
theorem own_form {W : World} {base e size n : Nat} {v : Value} {xs : List Value} (h : W.ownsRow base e size v n xs) : ∃ A c, v = .slice A n c ∧ n ≤ c ∧ c ≤ maxLen := by
  rcases h.2 with ⟨rfl, rfl⟩ | ⟨g, cap, cur, rfl, _, _, h1, h2, _⟩
  · exact ⟨none, 0, rfl, Nat.le_refl _, Nat.zero_le _⟩
  · exact ⟨_, cap, rfl, h1, h2⟩
def varint_Put.f (a0 : Int) : Option (List Int) := if 0 ≤ a0 ∧ a0 < 18446744073709551616 then some (putN a0.toNat) else none
set_option maxRecDepth 100000 in
set_option maxHeartbeats 2000000 in
theorem put_in (n : Nat) (hn : n < 18446744073709551616) (w : World) :
    CallsIn Fence.wide 0 Tryd.prog 19 #[.int .u64 n] w fun e W' => ∃ v, e = .returned v ∧ Kd.V (Kd.int .u8) 5 W' w.heap.size (fun k => w.heap.size ≤ k) v (putN n) ∧ Below w.heap.size w W' := by
  obtain ⟨i0, hi, hz0, hz1, hz2⟩ := info_parts infoByte
  refine callsIn_of_wp_marks Tryd.func19 rfl trivial ?_ rfl
  simp only [Tryd.ntmps19, List.size_toArray, List.length_cons, List.length_nil, Nat.reduceAdd, Nat.reduceSub, Array.replicate_succ, Array.replicate_zero, List.push_toArray, List.append_toArray, List.nil_append, List.cons_append]
  gi_wp2_with (gi_at_call 51; refine (septets_in _ _).mono ?_; rintro e w' ⟨rfl, rfl⟩)
  have bO := Boxed.new w 23 (.slice none 0 0)
  have bN := Boxed.new (w.alloc (.cells #[.slice none 0 0] 23)) 36 (.int .u64 n)
  rw [World.size_alloc] at bN
  have hB0 : Below w.heap.size w ((w.alloc (.cells #[.slice none 0 0] 23)).alloc (.cells #[.int .u64 n] 36)) := ((Below.refl _ w).alloc (Nat.le_refl _) _).alloc (by simp) _
  refine wpIn_range (gf := 83) (lb := #[.pointer (some ⟨w.heap.size + 1, 0, none⟩)]) (n0 := w.heap.size) (Pv := (· = w.heap.size + 1)) ?hg (enters_of Tryd.func83 (by kernel_rfl) rfl)
    (fun r hr => by subst hr; simp) (by simp; omega) (septets_seq _ (w.heap.size + 1) w.heap.size (by omega) n hn bN) ?hps
    (PutI w) (fun _ _ _ => False) (PutI.ab w _ (by simp; omega)) (fun _ => ⟨fun _ _ _ _ h _ _ => h, fun _ _ _ _ _ h => h⟩)
    ⟨⟨_, bO.alloc _, World.ownsRow_nil _ _ _ _⟩, hB0, _, bN⟩
    (fun x => { tmps := #[.int .u64 n, undef, .slice none 0 0, .pointer (some ⟨w.heap.size, 0, none⟩), .int .u8 x.1, .bool x.2, .int .u64 n, .func (.func 83) #[] #[.pointer (some ⟨w.heap.size + 1, 0, none⟩)], .int .u8 x.1, .bool x.2, undef, undef, undef, undef, undef, undef, undef, undef, undef], defers := [] }) ?assign ?body ?done ?stop
  case hg => rfl
  case hps => intro _; rfl
  case assign =>
    intro l x W K hK
    gi_wp2
    exact hK
  case body =>
    rintro l pre ⟨lo, more⟩ W hpre ⟨⟨v, hv, hrow⟩, hB, u, hu⟩ hsz
    have hc := hv.cell
    have hlen : pre.length + 1 ≤ 10 := by have := List.IsPrefix.length_le hpre; have := septN_len10 n hn; simp at *; omega
    have hlo := septN_lo n (lo, more) (hpre.subset (by simp))
    dsimp only at hlo
    cases more with
    | true =>
      have hor := Lib.hid (or128 lo hlo.1 hlo.2)
      clear hlo hpre
      gi_wp2_with (gi_at_builtin; refine wpListIn_append_own _ rfl _ _ 23 rfl w.heap.size 5 i0 (.int .u8 0) 1 1 Tryd.underlying23 hi hz0 hz1 hz2 rfl (by decide) _ _ _ rfl (hrow.alloc _) ⟨W.heap.size, 0, none⟩ 1 1 [.int .u8 (Go.bits .or .u8 lo 128)] rfl rfl (cell_one_new _ _ _) (by simp [Value.oneCell']) (by unfold maxLen; omega) (by omega) (by have := hB.size; simp; omega) ?_; intro v' w1 hown' hgrow _; obtain ⟨g', cap', rfl⟩ := ownsRow_succ hown'; obtain ⟨hv1, hv2, hr2, hk2, hb2⟩ := hv.appended (by decide) hrow hB.size (Nat.le_refl _) hown' hgrow; have hc1 := hv1.cell; have hf1 := hv1.frozen)
      have hp : (w1.setCell ⟨w.heap.size, 0, none⟩ (.slice (some ⟨g', 0, none⟩) (pre.length + 1) cap')).heap[w.heap.size + 1]? = W.heap[w.heap.size + 1]? := by
        rw [heap_setCell_other _ _ _ _ (by dsimp only; omega), hgrow.block (w.heap.size + 1) (by have := hu.lt; simp; omega) (hu.not_row (by decide) hrow)]
        exact Below.heap_alloc _ _ _ hu.lt
      exact ⟨hk2.from _, ⟨hb2, fun r hr => by subst hr; exact hp⟩, ⟨_, hv2, by rw [hor.out] at hr2; simpa [nums, byteOf] using hr2⟩, hB.trans hb2, u, hp.trans hu⟩
    | false =>
      clear hlo hpre
      gi_wp2_with (gi_at_builtin; refine wpListIn_append_own _ rfl _ _ 23 rfl w.heap.size 5 i0 (.int .u8 0) 1 1 Tryd.underlying23 hi hz0 hz1 hz2 rfl (by decide) _ _ _ rfl (hrow.alloc _) ⟨W.heap.size, 0, none⟩ 1 1 [.int .u8 (lo)] rfl rfl (cell_one_new _ _ _) (by simp [Value.oneCell']) (by unfold maxLen; omega) (by omega) (by have := hB.size; simp; omega) ?_; intro v' w1 hown' hgrow _; obtain ⟨g', cap', rfl⟩ := ownsRow_succ hown'; obtain ⟨hv1, hv2, hr2, hk2, hb2⟩ := hv.appended (by decide) hrow hB.size (Nat.le_refl _) hown' hgrow; have hc1 := hv1.cell; have hf1 := hv1.frozen)
      have hp : (w1.setCell ⟨w.heap.size, 0, none⟩ (.slice (some ⟨g', 0, none⟩) (pre.length + 1) cap')).heap[w.heap.size + 1]? = W.heap[w.heap.size + 1]? := by
        rw [heap_setCell_other _ _ _ _ (by dsimp only; omega), hgrow.block (w.heap.size + 1) (by have := hu.lt; simp; omega) (hu.not_row (by decide) hrow)]
        exact Below.heap_alloc _ _ _ hu.lt
      exact ⟨hk2.from _, ⟨hb2, fun r hr => by subst hr; exact hp⟩, ⟨_, hv2, by simpa [nums, byteOf] using hr2⟩, hB.trans hb2, u, hp.trans hu⟩
  case done =>
    rintro D W hD ⟨⟨v, hv, hrow⟩, hB, u, hu⟩ hK
    obtain ⟨A, c, rfl, hle, hmx⟩ := own_form hrow
    unfold maxLen at hmx
    have hc := hv.cell
    gi_wp2_with (gi_at_call 52; refine (clip_in _ _ _ hle hmx _).mono ?_; rintro e w' ⟨rfl, rfl⟩)
    refine ⟨by simp, .inl ⟨_, _, rfl, run_takeDeferred hK, ?_⟩⟩
    refine ⟨_, results_tmp rfl _ _ _, _, rfl, ?_, hB.trans (belowK_b (w := w) (Nat.le_refl _) _ D _ _ (by simp at hD; omega) hK rfl rfl)⟩
    rw [putN_sept]
    have ho := ownsRow_putObj hrow (.deferred none) hK rfl
    rw [show (septN n).length = ((septN n).map byteOf).length by simp] at ho ⊢
    exact V_of_own ho
  case stop =>
    rintro D c pre W _ _ h _
    exact h.elim

theorem varint_Put.calls (a0 : Int) (r : List Int) (w : World) (h : varint_Put.f a0 = some r) :
    Calls Tryd.prog 19 #[.int .u64 a0] w fun e w' => ∃ v0_ : Value, e = .returned v0_ ∧ Kd.V (Kd.int .u8) 5 w' w.heap.size (fun k_ => w.heap.size ≤ k_) v0_ r ∧ Below w.heap.size w w' := by
  unfold varint_Put.f at h
  split at h
  · rename_i h0
    obtain ⟨n, rfl⟩ := Int.eq_ofNat_of_zero_le h0.1
    cases h
    exact callsIn_wide.1 (put_in n (by omega) w)
  · cases h

end Go.Proofs.YthkpocgbinmeiaaDoor.P

/- slices.Collect over rows, where an iterator's contract is known. -/
import Derived.Test.YtimbamimabdmcaaGIter
import Derived.Test.YtimbamimabdmcaaGConcatI
import Derived.OwnWalkIn
import Derived.Maps.AppendAt
namespace Go.Proofs.Ytimbamimabdmcaa.P
set_option linter.unusedVariables false
set_option linter.unusedSimpArgs false
open Go Go.RowKit Go.Shelf Go.Proofs.Ytimbamimabdmcaa.Range Go.Proofs.Ytimbamimabdmcaa.U Go.Proofs.YtimbamimabdmcaaW.PrintWords Go.Proofs.YtimbamimabdmcaaW.PrintLast Go.Proofs.YtimbamimabdmcaaW.PrintMore
attribute [local go_sem] Oper.semAt_some wide_fn wide_depth

theorem wpListIn_append_at {F : Fence} {n : Nat} {P : Program} (w : World) {ops : Array Oper} {rest : List Oper} {o : Oper} {a : Act} {Q : Exit → Act → World → Prop}
    (hg : o.guard = none) (s x : Operand) (t : TypeId) (hop : o.op = Op.call { callee := Callee.builtin Builtin.append, args := #[s, x], argTypes := #[t, t] })
    (base : Nat) (e : TypeId) (i : TypeInfo) (z : Value) (size bytes : Nat) (h1 : P.underlying t = some (.slice e)) (h2 : P.info? e = some i) (h3 : i.zero = some z) (h4 : i.size = size) (h5 : i.bytes = bytes) (h6 : z.cells.size = size) (h7 : 0 < size)
    (v : Value) (k : Nat) (xs : List Value) (hs : a.eval s = v) (hown : w.ownsRow base e size v k xs) (ad : Addr) (m c : Nat) (news : List Value) (hx : a.eval x = .slice (some ad) m c) (hn : news.length = m * size)
    (hc : ∀ j u, news[j]? = some u → w.cell? (ad.add j) = some u) (h1c : ∀ u ∈ news, u.oneCell' = true) (b1 : k + m ≤ maxLen) (b2 : (k + m) * bytes ≤ 140737488355328) (b3 : base ≤ w.heap.size)
    (hK : ∀ v' w', w'.ownsRow base e size v' (k + m) (xs ++ news) → w.grownBy w' v.ownBlock → (v'.ownBlock = v.ownBlock ∨ v'.ownBlock = some w.heap.size) → wpListIn F n P ops Q rest (a.put o.dst v') w') :
    wpListIn F n P ops Q (o :: rest) a w := by
  refine wpListIn_plain hg fun K hK' => ?_
  obtain ⟨v', w', hrun, r1, r2, _, r3⟩ := run_append_own_at (P := P) (w := w) base t o.type e i z size bytes h1 h2 h3 h4 h5 h6 h7 v k xs hown ad m c news hn hc h1c b1 b2 b3
  unfold Oper.wpIn
  refine ⟨?_, ?_⟩
  · simp [Oper.about, hop, resolve, Target.leads, Sem.run_pure]
  · rw [Oper.semAt_plain F _ _ (by rw [hop]; intro c hc'; cases hc')]
    simp [execOp, hop, resolve, invoke, builtin, hs, hx, hrun, Result.andThen]
    exact hK' _ _ (hK v' w' r1 r2 r3)
/-- One element more, inside a fence. -/
theorem R_appendIn {α : Type} {F : Fence} {n : Nat} {P : Program} {ops : Array Oper} {rest : List Oper} {o : Oper} {a : Act} {Q : Exit → Act → World → Prop} (d : Kd α) {W : World} (base : Nat) (hgd : o.guard = none) (s x : Operand) (t e : TypeId) (z : Value) (bytes : Nat)
    (ho : o.op = .call { callee := .builtin .append, args := #[s, x], argTypes := #[t, t] })
    (ht : P.underlying t = some (.slice e)) (hinfo : (P.info? e).map (fun i => (i.zero, i.size, i.bytes)) = some (some z, d.sz, bytes)) (hz : z.cells.size = d.sz) (hs0 : 0 < d.sz) (hb0 : 0 < bytes)
    (v : Value) (xs : List α) (p : α) (cs : List Value) (ok okp : Nat → Prop) (hs : a.eval s = v) (hx : a.eval x = .slice (some ⟨W.heap.size, 0, none⟩) 1 1) (hp : d.M W base okp p cs) (hokp : ∀ k, okp k → ok k ∧ some k ≠ v.ownBlock) (hfresh : ∀ k, W.heap.size ≤ k → ok k)
    (HO : d.R e W base ok v xs) (hbase : base ≤ W.heap.size) (hl : (xs.length + 1) * bytes ≤ 140737488355328)
    (h : ∀ v1 w1, d.R e w1 base ok v1 (xs ++ [p]) → W.grownBy w1 v.ownBlock → (v1.ownBlock = v.ownBlock ∨ ∃ b, v1.ownBlock = some b ∧ W.heap.size ≤ b) → wpListIn F n P ops Q rest (a.put o.dst v1) w1) :
    wpListIn F n P ops Q (o :: rest) a (W.alloc (.cells cs.toArray e)) := by
  obtain ⟨h0, inner, hown, hr⟩ := HO
  obtain ⟨i0, hi, hzz⟩ := Option.map_eq_some_iff.1 hinfo
  simp only [Prod.mk.injEq] at hzz
  obtain ⟨hz0, hz1, hz2⟩ := hzz
  have hlen : xs.length + 1 ≤ 140737488355328 := Nat.le_trans (Nat.le_mul_of_pos_right _ hb0) hl
  have hcs := d.K_len (d.K_of_M hp)
  refine wpListIn_append_at (W.alloc (.cells cs.toArray e)) hgd s x t ho base e i0 z d.sz bytes ht hi hz0 hz1 hz2 hz hs0 v xs.length inner hs (hown.alloc _) ⟨W.heap.size, 0, none⟩ 1 1 cs hx (by rw [hcs]; simp)
    (by simpa using World.news_of_block (cs := cs.toArray) (t := e) (fr := (0, 0)) (heap_alloc_new W (.cells cs.toArray e))) (d.K_one (d.K_of_M hp)) (by simp only [maxLen]; omega) hl (by simp; omega) ?_
  intro v1 w1 hown1 hg hat
  have hg1 : W.grownBy w1 v.ownBlock := World.grownBy.trans (World.grownBy_alloc W _ _) hg
  have hat1 : v1.ownBlock = v.ownBlock ∨ ∃ b, v1.ownBlock = some b ∧ W.heap.size ≤ b := hat.elim .inl (fun h => .inr ⟨_, h, by simp⟩)
  exact h v1 w1 (Kd.R_appended h0 hr hp hokp hfresh hown1 hg1 hat1) hg1 hat1
theorem seqO_below {α : Type} {P : Program} {gf : Nat} {lb : Array Value} {Rep : α → Value → World → Prop} {X : Nat → Prop} {L : List α} {w w2 : World} (h : SeqO P gf lb Rep X L w) (hb : Below w.heap.size w w2) : SeqO P gf lb Rep X L w2 :=
  fun l J Jx Own W hW => h l J Jx Own W (hb.trans (hW.mono hb.size))
theorem boxed_inj {W : World} {B t : Nat} {u v : Value} (h : Boxed W B t u) (k : Boxed W B t v) : u = v := by
  have h' : W.heap[B]? = _ := h
  have k' : W.heap[B]? = _ := k
  rw [h'] at k'
  simpa using k'
def CollI (w0 : World) (B : Nat) (pre : List (List Int)) (W : World) : Prop :=
  ∃ v, Boxed W B 39 v ∧ Kd.R (Kd.slice 3 (Kd.int .i64)) 23 W w0.heap.size (fun _ => True) v pre ∧ Below w0.heap.size w0 W
def CollO (B : Nat) (_ : List (List Int)) (W : World) (r : Nat) : Prop := r = B ∨ ∃ v, Boxed W B 39 v ∧ v.ownBlock = some r
theorem not_cells {A : World} {row : Option Nat} {n k : Nat} {cells : Array Value} {q : TypeId} {fr : Nat × Nat} (hr : ∀ r, row = some r → n ≤ r ∧ ∃ o : Obj, A.heap[r]? = some o ∧ o.isCells = false) (h : A.heap[k]? = some (.cells cells q fr)) : some k ≠ row := by
  intro e
  obtain ⟨_, o, h1, h2⟩ := hr k e.symm
  rw [h] at h1; cases h1; simp [Obj.isCells] at h2
theorem CollI.ab {w0 : World} {B n : Nat} (hn : w0.heap.size ≤ n) : AbG n (CollI w0 B) := by
  rintro s A C row ⟨v, h1, h2, h3⟩ hg hr
  refine ⟨v, h1.kept hg (not_cells hr h1), Kd.R_mono (Kd.R_grown (Kd.R_bound h2) hg (fun k hk => ?_)) (fun _ _ => trivial), h3.grown hg h3.size (fun k e => by have := (hr k e).1; omega)⟩
  obtain ⟨_, _, _, q, _, cells, hc⟩ := hk
  exact not_cells hr hc
theorem CollO.own {w0 : World} {B n : Nat} : OwnG n (CollI w0 B) (CollO B) := by
  refine ⟨?_, ?_⟩
  · rintro s A r ⟨v, h1, h2, h3⟩ (rfl | ⟨v', h4, h5⟩)
    · exact ⟨_, h1, rfl⟩
    · obtain rfl := boxed_inj h1 h4
      obtain ⟨cells, hc⟩ := Kd.R_typed h2 r h5
      exact ⟨_, hc, rfl⟩
  · rintro s A C row ⟨v, h1, h2, h3⟩ hg hr r (rfl | ⟨v', h4, h5⟩)
    · exact .inl rfl
    · have h6 := h1.kept hg (not_cells hr h1)
      obtain rfl := boxed_inj h6 h4
      exact .inr ⟨v, h1, h5⟩
set_option maxRecDepth 100000 in
set_option maxHeartbeats 2000000 in
theorem appendseq_any (L : List (List Int)) (hL : L.length ≤ 1000000) (lb : Array Value) (X : Nat → Prop) (w0 w : World) (hB : Below w0.heap.size w0 w) (hseq : SeqO Try.prog 56 lb (RepI w0.heap.size) X L w) (hX : ∀ r, X r → r < w.heap.size) :
    CallsIn Fence.wide 0 Try.prog 52 #[.slice none 0 0, .func (.func 56) #[] lb] w fun e W' => ∃ v, e = .returned v ∧ Kd.R (Kd.slice 3 (Kd.int .i64)) 23 W' w0.heap.size (fun _ => True) v L ∧ Below w0.heap.size w0 W' := by
  refine callsIn_of_wp_marks Try.func52 rfl trivial ?_ rfl
  simp only [Try.ntmps52, List.size_toArray, List.length_cons, List.length_nil, Nat.reduceAdd, Nat.reduceSub, Array.replicate_succ, Array.replicate_zero, List.push_toArray, List.append_toArray, List.nil_append, List.cons_append]
  gi_wp2
  have hb1 : Below w.heap.size w (w.alloc (.cells #[.slice none 0 0] 39)) := (Below.refl _ w).alloc (Nat.le_refl _) _
  have hbx := Boxed.new w 39 (.slice none 0 0)
  have hz := hB.size
  refine wpIn_rangeO (gf := 56) (lb := lb) rfl (enters_of Try.func56 (by kernel_rfl) rfl) (seqO_below hseq hb1) rfl (fun x v A B row h hg hr => RepI.grown h hg hr)
    (CollI w0 w.heap.size) (CollO w.heap.size) (fun _ _ _ => False) (CollI.ab (by simp; omega)) CollO.own (fun _ _ _ _ _ h _ _ => h)
    ⟨_, hbx, Kd.R_nil _ _ _ _ _, hB.trans (hb1.mono hz)⟩ ?hX ?hround ?hdone ?hstop
  case hX =>
    rintro r hr (rfl | ⟨v, h1, h2⟩)
    · exact absurd (hX _ hr) (by omega)
    · obtain rfl := boxed_inj hbx h1
      cases h2
  case hround =>
    intro l pre x v W hpre hrep hnot hI hsz
    obtain ⟨Av, cv, rfl⟩ := Kd.R_slice hrep
    gi_wp2
    refine ⟨by first | trivial | rfl, ?_⟩
    rintro Wb hrepb hnotb ⟨vo, hvo, hRo, hBo⟩ hszb
    have hc := hvo.cell
    have hf := hvo.frozen
    have hlen : pre.length + 1 ≤ 1000000 := by have := List.IsPrefix.length_le hpre; simp at this; omega
    have hM : (Kd.slice 3 (Kd.int .i64)).M Wb w0.heap.size (fun k => (Value.slice Av x.length cv).ownBlock = some k) x [.slice Av x.length cv] := ⟨_, rfl, Kd.R_mono (Kd.R_tight rfl hrepb) (fun k hk => hk.symm)⟩
    have hzb := hBo.size
    gi_wp2_with (gi_at_builtin; refine R_appendIn (Kd.slice 3 (Kd.int .i64)) w0.heap.size rfl _ _ 39 23 (.slice none 0 0) 24 rfl Try.underlying39 infoCatIs rfl (by decide) (by decide) vo pre x [.slice Av x.length cv] (fun _ => True) (fun k => (Value.slice Av x.length cv).ownBlock = some k) rfl rfl hM (fun k hk => ⟨trivial, fun e => hnotb k hk (.inr ⟨vo, hvo, e.symm⟩)⟩) (fun _ _ => trivial) hRo hzb (by omega) ?_; intro v1 w1 hR1 hg1 hat1; obtain ⟨A1, c1, rfl⟩ := Kd.R_slice hR1; rw [show (pre ++ [x]).length = pre.length + 1 by simp] at hR1 hat1; have hv1 := hvo.kept hg1 (Kd.R_ne hRo hvo (by decide)); have hc1 := hv1.cell; have hf1 := hv1.frozen)
    refine ⟨?_, ⟨_, hv1.set _, Kd.R_set hR1 hv1 (by decide) 0 _, ?_⟩, ⟨hg1.os, hg1.tape, hg1.output, by simpa using hg1.size, ?_⟩, ?_⟩
    · refine ((KeepsOthers.of_grownBy hg1 fun j o ej hj => ?_).trans (KeepsOthers.setCell _ _ _)).from _
      obtain ⟨cells, hcl⟩ := Kd.R_typed hRo j ej
      rw [hcl] at hj; cases hj; rfl
    · exact (hBo.grown hg1 hzb (fun k hk => Kd.R_base hRo k hk)).setCell (p := ⟨w.heap.size, 0, none⟩) hz _
    · intro k hk hn
      have h1 : k ≠ w.heap.size := fun e => hn (.inl e)
      refine (Below.heap_setCell w1 ⟨w.heap.size, 0, none⟩ _ k h1).trans (hg1.block k hk (fun e => hn (.inr ⟨vo, hvo, e.symm⟩)))
    · rintro r (rfl | ⟨v', h4, h5⟩)
      · exact .inl (.inl rfl)
      · have h7 := boxed_inj (hv1.set _) h4
        rw [← h7] at h5
        rcases hat1 with h | ⟨b, h, h6⟩
        · exact .inl (.inr ⟨vo, hvo, h ▸ h5⟩)
        · rw [h] at h5; cases h5; exact .inr h6
  case hdone =>
    rintro D W hD ⟨v, hv, hR, hBW⟩ hK
    have hc := hv.cell
    gi_wp2
    refine ⟨by simp, .inl ⟨_, _, rfl, run_takeDeferred hK, ?_⟩⟩
    refine ⟨_, results_tmp rfl _ _ _, _, rfl, ?_, ?_⟩
    · refine Kd.R_mono (Kd.R_grown (Kd.R_bound hR) (grownBy_putObj' W D _) (fun k hk => ?_)) (fun _ _ => trivial)
      obtain ⟨_, _, _, q, _, cells, hcl⟩ := hk
      intro e; cases e
      rw [hK] at hcl; cases hcl
    · exact hBW.grown (grownBy_putObj' W D _) hBW.size (fun k e => by cases e; simp at hD; omega)
  case hstop =>
    rintro D c pre W _ _ h _
    exact h.elim
theorem collect_any (L : List (List Int)) (hL : L.length ≤ 1000000) (lb : Array Value) (X : Nat → Prop) (w0 w : World) (hB : Below w0.heap.size w0 w) (hseq : SeqO Try.prog 56 lb (RepI w0.heap.size) X L w) (hX : ∀ r, X r → r < w.heap.size) :
    Calls Try.prog 39 #[.func (.func 56) #[] lb] w fun e W' => ∃ v, e = .returned v ∧ Kd.R (Kd.slice 3 (Kd.int .i64)) 23 W' w0.heap.size (fun _ => True) v L ∧ Below w0.heap.size w0 W' := by
  have h := Lib.hid (callsIn_wide.1 (appendseq_any L hL lb X w0 w hB hseq hX))
  clear hseq hX
  go_enter Try.func39, Try.ntmps39
  go_wp2_with (go_at_call 52; refine h.out.mono ?_; rintro e W' ⟨v, rfl, hR, hB2⟩)
  go_ret
  exact ⟨_, rfl, hR, hB2⟩
end Go.Proofs.Ytimbamimabdmcaa.P

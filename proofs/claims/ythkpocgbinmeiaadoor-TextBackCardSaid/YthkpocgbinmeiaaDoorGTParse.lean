/- text.Parse, given: it asks that the table of kinds lies in the world. -/
import Derived.Test.YthkpocgbinmeiaaDoorGTEv2
import Derived.Test.YthkpocgbinmeiaaDoorGTSplit
import Derived.Test.YthkpocgbinmeiaaDoorUWordD
import Derived.Test.YthkpocgbinmeiaaDoorP2
import Derived.OwnWalkIn
import Derived.Maps.AppendAt
import Derived.Sort.CutIn
import Derived.LoopIn
namespace Go.Proofs.YthkpocgbinmeiaaDoor.P
set_option linter.unusedVariables false
set_option linter.unusedSimpArgs false
open Go Go.RowKit Go.Shelf Go.Proofs.YthkpocgbinmeiaaDoor.Range Go.Proofs.YthkpocgbinmeiaaDoor.U Go.Proofs.YthkpocgbinmeiaaDoorW.PrintWords Go.Proofs.YthkpocgbinmeiaaDoorW.PrintLast Go.Proofs.YthkpocgbinmeiaaDoorW.PrintMore
attribute [local go_sem] Oper.semAt_some wide_fn wide_depth

theorem wpListIn_append_at {F : Fence} {n : Nat} {P : Program} (w : World) {ops : Array Oper} {rest : List Oper} {o : Oper} {a : Act} {Q : Exit → Act → World → Prop}
    (hg : o.guard = none) (s x : Operand) (t : TypeId) (hop : o.op = Op.call { callee := Callee.builtin Builtin.append, args := #[s, x], argTypes := #[t, t] })
    (base : Nat) (e : TypeId) (i : TypeInfo) (z : Value) (size bytes : Nat) (h1 : P.underlying t = some (.slice e)) (h2 : P.info? e = some i) (h3 : i.zero = some z) (h4 : i.size = size) (h5 : i.bytes = bytes) (h6 : z.cells.size = size) (h7 : 0 < size)
    (v : Value) (k : Nat) (xs : List Value) (hs : a.eval s = v) (hown : w.ownsRow base e size v k xs) (ad : Addr) (m c : Nat) (news : List Value) (hx : a.eval x = .slice (some ad) m c) (hn : news.length = m * size)
    (hc : ∀ j u, news[j]? = some u → w.cell? (ad.add j) = some u) (h1c : ∀ u ∈ news, u.oneCell' = true) (b1 : k + m ≤ maxLen) (b2 : (k + m) * bytes ≤ 140737488355328) (b3 : base ≤ w.heap.size)
    (hK : ∀ v' w', w'.ownsRow base e size v' (k + m) (xs ++ news) → w.grownBy w' v.ownBlock → (v'.ownBlock = v.ownBlock ∨ v'.ownBlock = some w.heap.size) → wpListIn F n P ops Q rest (a.put o.dst v') w') :
    wpListIn F n P ops Q (o :: rest) a w := by
  refine wpListIn_plain hg fun K hK' => ?_
  obtain ⟨v', w', hrun, r1, r2, _, r3⟩ := run_append_own_at (P := P) (w := w) base t o.type e i z size bytes h1 h2 h3 h4 h5 h6 h7 v k xs hown ad m c news hn hc h1c b1 b2 b3
  unfold Oper.wpIn
  refine ⟨?_, ?_⟩
  · simp [Oper.about, hop, resolve, Target.leads, Sem.run_pure]
  · rw [Oper.semAt_plain F _ _ (by rw [hop]; intro c hc'; cases hc')]
    simp [execOp, hop, resolve, invoke, builtin, hs, hx, hrun, Result.andThen]
    exact hK' _ _ (hK v' w' r1 r2 r3)
/-- One element more, inside a fence. -/
theorem R_appendIn {α : Type} {F : Fence} {n : Nat} {P : Program} {ops : Array Oper} {rest : List Oper} {o : Oper} {a : Act} {Q : Exit → Act → World → Prop} (d : Kd α) {W : World} (base : Nat) (hgd : o.guard = none) (s x : Operand) (t e : TypeId) (z : Value) (bytes : Nat)
    (ho : o.op = .call { callee := .builtin .append, args := #[s, x], argTypes := #[t, t] })
    (ht : P.underlying t = some (.slice e)) (hinfo : (P.info? e).map (fun i => (i.zero, i.size, i.bytes)) = some (some z, d.sz, bytes)) (hz : z.cells.size = d.sz) (hs0 : 0 < d.sz) (hb0 : 0 < bytes)
    (v : Value) (xs : List α) (p : α) (cs : List Value) (ok okp : Nat → Prop) (hs : a.eval s = v) (hx : a.eval x = .slice (some ⟨W.heap.size, 0, none⟩) 1 1) (hp : d.M W base okp p cs) (hokp : ∀ k, okp k → ok k ∧ some k ≠ v.ownBlock) (hfresh : ∀ k, W.heap.size ≤ k → ok k)
    (HO : d.R e W base ok v xs) (hbase : base ≤ W.heap.size) (hl : (xs.length + 1) * bytes ≤ 140737488355328)
    (h : ∀ v1 w1, d.R e w1 base ok v1 (xs ++ [p]) → W.grownBy w1 v.ownBlock → (v1.ownBlock = v.ownBlock ∨ ∃ b, v1.ownBlock = some b ∧ W.heap.size ≤ b) → wpListIn F n P ops Q rest (a.put o.dst v1) w1) :
    wpListIn F n P ops Q (o :: rest) a (W.alloc (.cells cs.toArray e)) := by
  obtain ⟨h0, inner, hown, hr⟩ := HO
  obtain ⟨i0, hi, hzz⟩ := Option.map_eq_some_iff.1 hinfo
  simp only [Prod.mk.injEq] at hzz
  obtain ⟨hz0, hz1, hz2⟩ := hzz
  have hlen : xs.length + 1 ≤ 140737488355328 := Nat.le_trans (Nat.le_mul_of_pos_right _ hb0) hl
  have hcs := d.K_len (d.K_of_M hp)
  refine wpListIn_append_at (W.alloc (.cells cs.toArray e)) hgd s x t ho base e i0 z d.sz bytes ht hi hz0 hz1 hz2 hz hs0 v xs.length inner hs (hown.alloc _) ⟨W.heap.size, 0, none⟩ 1 1 cs hx (by rw [hcs]; simp)
    (by simpa using World.news_of_block (cs := cs.toArray) (t := e) (fr := (0, 0)) (heap_alloc_new W (.cells cs.toArray e))) (d.K_one (d.K_of_M hp)) (by simp only [maxLen]; omega) hl (by simp; omega) ?_
  intro v1 w1 hown1 hg hat
  have hg1 : W.grownBy w1 v.ownBlock := World.grownBy.trans (World.grownBy_alloc W _ _) hg
  have hat1 : v1.ownBlock = v.ownBlock ∨ ∃ b, v1.ownBlock = some b ∧ W.heap.size ≤ b := hat.elim .inl (fun h => .inr ⟨_, h, by simp⟩)
  exact h v1 w1 (Kd.R_appended h0 hr hp hokp hfresh hown1 hg1 hat1) hg1 hat1
theorem boxed_inj {W : World} {B t : Nat} {u v : Value} (h : Boxed W B t u) (k : Boxed W B t v) : u = v := by
  have h' : W.heap[B]? = _ := h
  have k' : W.heap[B]? = _ := k
  rw [h'] at k'
  simpa using k'
theorem not_cells {A : World} {row : Option Nat} {n k : Nat} {cells : Array Value} {q : TypeId} {fr : Nat × Nat} (hr : ∀ r, row = some r → n ≤ r ∧ ∃ o : Obj, A.heap[r]? = some o ∧ o.isCells = false) (h : A.heap[k]? = some (.cells cells q fr)) : some k ≠ row := by
  intro e
  obtain ⟨_, o, h1, h2⟩ := hr k e.symm
  rw [h] at h1; cases h1; simp [Obj.isCells] at h2
/-- A row's words, and where they begin, from a place on. -/
def wsS (s : ByteArray) : List ByteArray := (wordsOf s).map (fun p => (cutHash s).1.extract p.1 p.2)
def atsS (s : ByteArray) : List Int := (wordsOf s).map (fun p => (p.1 : Int))
def shift (d : Int) (l : List Int) : List Int := l.map (· + d)
/-- The events of rows, behind others, from a place on; where; what is wrong. -/
def linesT : List ByteArray → Int → List S34 → List S34 × Int × Int
  | [], _, evs => (evs, 0, 0)
  | s :: t, fr, evs =>
    if (wsS s).length = 0 then linesT t (fr + ((s.size : Int) + 1)) evs
    else if (tev (wsS s) (shift fr (atsS s)) (fr + s.size) evs).2.2 ≠ 0 then ([], (tev (wsS s) (shift fr (atsS s)) (fr + s.size) evs).2.1, (tev (wsS s) (shift fr (atsS s)) (fr + s.size) evs).2.2)
    else linesT t (fr + ((s.size : Int) + 1)) (evs ++ [(tev (wsS s) (shift fr (atsS s)) (fr + s.size) evs).1])
def sumN (l : List ByteArray) : Nat := (l.map (fun s => s.size + 1)).sum
theorem sumN_app (a b : List ByteArray) : sumN (a ++ b) = sumN a + sumN b := by simp [sumN]
theorem sum_rows (n : Nat) : ∀ s : ByteArray, s.size ≤ n → sumN (rowsS s) = s.size + 1 := by
  induction n with
  | zero =>
    intro s hs
    rw [rowsS]
    have hi : ¬ 0 ≤ Lib.indexByte s.data.toList 10 := by
      intro h
      have := indexByte_lt s.data.toList 10 h
      rw [← Lib.size_eq] at this
      omega
    rw [dif_neg hi]
    simp [sumN]
  | succ n ih =>
    intro s hs
    rw [rowsS]
    by_cases hi : 0 ≤ Lib.indexByte s.data.toList 10
    · rw [dif_pos hi]
      have := indexByte_lt s.data.toList 10 hi
      rw [← Lib.size_eq] at this
      have h2 := ih (s.extract ((Lib.indexByte s.data.toList 10).toNat + 1) s.size) (by simp; omega)
      have h3 : sumN (s.extract 0 (Lib.indexByte s.data.toList 10).toNat :: rowsS (s.extract ((Lib.indexByte s.data.toList 10).toNat + 1) s.size)) = (s.extract 0 (Lib.indexByte s.data.toList 10).toNat).size + 1 + sumN (rowsS (s.extract ((Lib.indexByte s.data.toList 10).toNat + 1) s.size)) := by simp [sumN]
      rw [h3, h2]
      simp
      omega
    · rw [dif_neg hi]; simp [sumN]
theorem pre_sum {s : ByteArray} {pre : List ByteArray} {x : ByteArray} (h : pre ++ [x] <+: rowsS s) : sumN pre + x.size ≤ s.size := by
  obtain ⟨t, ht⟩ := h
  have h1 := sum_rows s.size s (Nat.le_refl _)
  rw [← ht, sumN_app, sumN_app] at h1
  have : sumN [x] = x.size + 1 := by simp [sumN]
  omega
theorem wsS_len (s : ByteArray) : (wsS s).length = (atsS s).length := by simp [wsS, atsS]
theorem shift_len (d : Int) (l : List Int) : (shift d l).length = l.length := by simp [shift]
theorem wsS_le (s : ByteArray) : (wsS s).length ≤ s.size + 1 := by have := words_len s; simpa [wsS] using this
theorem cutHash_le (s : ByteArray) : (cutHash s).1.size ≤ s.size := by
  rw [Lib.size_eq, cutHash_bytes, Lib.size_eq]
  exact (List.takeWhile_sublist _).length_le
theorem wsS_size (s : ByteArray) : ∀ x ∈ wsS s, x.size ≤ s.size := by
  intro x hx
  obtain ⟨p, hp, rfl⟩ := List.mem_map.1 hx
  have := cutHash_le s
  simp
  omega
theorem atsS_in (s : ByteArray) : ∀ x ∈ atsS s, 0 ≤ x ∧ x ≤ s.size := by
  intro x hx
  obtain ⟨p, hp, rfl⟩ := List.mem_map.1 hx
  have h1 := wi_in _ 0 0 (Nat.le_refl _) p hp
  have h2 : (upto s.data.toList).length ≤ s.data.toList.length := (List.takeWhile_sublist _).length_le
  rw [← Lib.size_eq] at h2
  omega
/-- Parse's boxes. -/
structure PB (w0 : World) (fr : Int) (evs : List S34) (v : Value) (W : World) : Prop where
  r0 : Boxed W w0.heap.size 22 (.slice none 0 0)
  r1 : Boxed W (w0.heap.size + 1) 3 (.int .i64 0)
  r2 : Boxed W (w0.heap.size + 2) 24 (.int .i64 0)
  out : Boxed W (w0.heap.size + 3) 22 v
  fr : Boxed W (w0.heap.size + 4) 3 (.int .i64 fr)
  rows : Kd.R k34 34 W w0.heap.size (fun _ => True) v evs
  below : Below w0.heap.size w0 W
  p0 : ∃ u, Boxed W (w0.heap.size + 5) 9 u
  p1 : ∃ u, Boxed W (w0.heap.size + 6) 9 u
  p2 : ∃ u, Boxed W (w0.heap.size + 7) 3 u
/-- What a round of Parse begins with. -/
structure PI (w0 : World) (s : ByteArray) (pre : List ByteArray) (evs : List S34) (v : Value) (W : World) : Prop where
  law : ∀ rest, linesT (pre ++ rest) 0 [] = linesT rest (sumN pre) evs
  le : evs.length ≤ 60
  b : PB w0 (sumN pre) evs v W
/-- .. and how it may be left early. -/
structure PX (w0 : World) (s : ByteArray) (a b : Int) (W : World) : Prop where
  law : linesT (rowsS s) 0 [] = ([], a, b)
  r0 : Boxed W w0.heap.size 22 (.slice none 0 0)
  r1 : Boxed W (w0.heap.size + 1) 3 (.int .i64 a)
  r2 : Boxed W (w0.heap.size + 2) 24 (.int .i64 b)
  below : Below w0.heap.size w0 W
def PIx (w0 : World) (s : ByteArray) (pre : List ByteArray) (W : World) : Prop := ∃ evs v, PI w0 s pre evs v W
def PXx (w0 : World) (s : ByteArray) (c : Code) (_ : List ByteArray) (W : World) : Prop := c = .ret ∧ ∃ a b, PX w0 s a b W
theorem PB.grown {w0 A C : World} {fr : Int} {evs : List S34} {v : Value} {row : Option Nat} (h : PB w0 fr evs v A) (hg : A.grownBy C row) (hr : ∀ r, row = some r → w0.heap.size + 8 ≤ r ∧ ∃ o : Obj, A.heap[r]? = some o ∧ o.isCells = false) : PB w0 fr evs v C := by
  obtain ⟨u0, p0⟩ := h.p0
  obtain ⟨u1, p1⟩ := h.p1
  obtain ⟨u2, p2⟩ := h.p2
  refine ⟨h.r0.kept hg (not_cells hr h.r0), h.r1.kept hg (not_cells hr h.r1), h.r2.kept hg (not_cells hr h.r2), h.out.kept hg (not_cells hr h.out), h.fr.kept hg (not_cells hr h.fr), ?_, h.below.grown hg h.below.size (fun k e => by have := (hr k e).1; omega), ⟨u0, p0.kept hg (not_cells hr p0)⟩, ⟨u1, p1.kept hg (not_cells hr p1)⟩, ⟨u2, p2.kept hg (not_cells hr p2)⟩⟩
  refine Kd.R_mono (Kd.R_grown (Kd.R_bound h.rows) hg (fun k hk => ?_)) (fun _ _ => trivial)
  obtain ⟨_, _, _, q, _, cells, hc⟩ := hk
  exact not_cells hr hc
theorem PB.own {w0 A : World} {fr : Int} {evs : List S34} {v : Value} (h : PB w0 fr evs v A) {r : Nat} (x : Value) (hr : Pv3 (w0.heap.size + 5) r) : PB w0 fr evs v (A.setCell ⟨r, 0, none⟩ x) := by
  obtain ⟨u0, p0⟩ := h.p0
  obtain ⟨u1, p1⟩ := h.p1
  obtain ⟨u2, p2⟩ := h.p2
  have hrn : w0.heap.size + 5 ≤ r := by rcases hr with rfl | rfl | rfl <;> omega
  have hp : (∃ u, Boxed (A.setCell ⟨r, 0, none⟩ x) (w0.heap.size + 5) 9 u) ∧ (∃ u, Boxed (A.setCell ⟨r, 0, none⟩ x) (w0.heap.size + 6) 9 u) ∧ (∃ u, Boxed (A.setCell ⟨r, 0, none⟩ x) (w0.heap.size + 7) 3 u) := by
    rcases hr with rfl | rfl | rfl
    · exact ⟨⟨_, p0.set x⟩, ⟨_, p1.other (by omega) x⟩, ⟨_, p2.other (by omega) x⟩⟩
    · exact ⟨⟨_, p0.other (by omega) x⟩, ⟨_, p1.set x⟩, ⟨_, p2.other (by omega) x⟩⟩
    · exact ⟨⟨_, p0.other (by omega) x⟩, ⟨_, p1.other (by omega) x⟩, ⟨_, p2.set x⟩⟩
  refine ⟨h.r0.other (by omega) x, h.r1.other (by omega) x, h.r2.other (by omega) x, h.out.other (by omega) x, h.fr.other (by omega) x, ?_, h.below.setCell (p := ⟨r, 0, none⟩) (by show w0.heap.size ≤ r; omega) x, hp.1, hp.2.1, hp.2.2⟩
  rcases hr with rfl | rfl | rfl
  · exact Kd.R_set h.rows p0 (by decide) 0 x
  · exact Kd.R_set h.rows p1 (by decide) 0 x
  · exact Kd.R_set h.rows p2 (by decide) 0 x
theorem PB.call {w0 A C : World} {fr : Int} {evs : List S34} {v : Value} (h : PB w0 fr evs v A) (hb : Below A.heap.size A C) : PB w0 fr evs v C :=
  h.grown (row := none) ⟨hb.os, hb.tape, hb.output, hb.size, fun k hk _ => hb.block k hk⟩ (fun r e => by cases e)
theorem PB.set4 {w0 A : World} {fr : Int} {evs : List S34} {v : Value} (h : PB w0 fr evs v A) (fr' : Int) : PB w0 fr' evs v (A.setCell ⟨w0.heap.size + 4, 0, none⟩ (.int .i64 fr')) := by
  obtain ⟨u0, p0⟩ := h.p0
  obtain ⟨u1, p1⟩ := h.p1
  obtain ⟨u2, p2⟩ := h.p2
  exact ⟨h.r0.other (by omega) _, h.r1.other (by omega) _, h.r2.other (by omega) _, h.out.other (by omega) _, h.fr.set _, Kd.R_set h.rows h.fr (by decide) 0 _, h.below.setCell (p := ⟨w0.heap.size + 4, 0, none⟩) (by show w0.heap.size ≤ w0.heap.size + 4; omega) _, ⟨_, p0.other (by omega) _⟩, ⟨_, p1.other (by omega) _⟩, ⟨_, p2.other (by omega) _⟩⟩
theorem PB.app {w0 A C : World} {fr : Int} {evs evs' : List S34} {v v' : Value} (h : PB w0 fr evs v A) (hg : A.grownBy C v.ownBlock) (hR : Kd.R k34 34 C w0.heap.size (fun _ => True) v' evs') : PB w0 fr evs' v' (C.setCell ⟨w0.heap.size + 3, 0, none⟩ v') := by
  obtain ⟨u0, p0⟩ := h.p0
  obtain ⟨u1, p1⟩ := h.p1
  obtain ⟨u2, p2⟩ := h.p2
  have ne : ∀ {B t : Nat} {u : Value}, Boxed A B t u → 34 ≠ t → Boxed C B t u := fun hb ht => hb.kept hg (Kd.R_ne h.rows hb ht)
  have ho := ne h.out (by decide)
  exact ⟨(ne h.r0 (by decide)).other (by omega) _, (ne h.r1 (by decide)).other (by omega) _, (ne h.r2 (by decide)).other (by omega) _, ho.set _, (ne h.fr (by decide)).other (by omega) _, Kd.R_set hR ho (by decide) 0 _, (h.below.grown hg h.below.size (fun k hk => Kd.R_base h.rows k hk)).setCell (p := ⟨w0.heap.size + 3, 0, none⟩) (by show w0.heap.size ≤ w0.heap.size + 3; omega) _, ⟨_, (ne p0 (by decide)).other (by omega) _⟩, ⟨_, (ne p1 (by decide)).other (by omega) _⟩, ⟨_, (ne p2 (by decide)).other (by omega) _⟩⟩
/-- What a round keeps. -/
structure KK (n : Nat) (W C : World) : Prop where
  k : KeepsFrom (n + 8) W C
  kp : Kp (Pv3 (n + 5)) n W C
  size : n + 8 ≤ C.heap.size
theorem KK.call {n : Nat} {W A C : World} (h : KK n W A) (hb : Below A.heap.size A C) : KK n W C :=
  ⟨h.k.trans ((KeepsOthers.of_grownBy (row := none) ⟨hb.os, hb.tape, hb.output, hb.size, fun k hk _ => hb.block k hk⟩ (fun _ _ e => by cases e)).from _), h.kp.trans ⟨hb.mono (by have := h.size; omega), fun r hr => hb.block r (by have := h.size; rcases hr with rfl | rfl | rfl <;> omega)⟩, Nat.le_trans h.size hb.size⟩
theorem KK.set {n : Nat} {W A : World} (h : KK n W A) (i : Nat) (hi : i < 5) (x : Value) : KK n W (A.setCell ⟨n + i, 0, none⟩ x) :=
  ⟨h.k.trans ((KeepsOthers.setCell _ _ _).from _), h.kp.trans ⟨(Below.refl n A).setCell (p := ⟨n + i, 0, none⟩) (by show n ≤ n + i; omega) x, fun r hr => Below.heap_setCell A ⟨n + i, 0, none⟩ x r (by show r ≠ n + i; rcases hr with rfl | rfl | rfl <;> omega)⟩, by have := h.size; simpa using this⟩
theorem KK.app {w0 W A C : World} {fr : Int} {evs : List S34} {v : Value} (h : KK w0.heap.size W A) (hp : PB w0 fr evs v A) (hg : A.grownBy C v.ownBlock) : KK w0.heap.size W C := by
  obtain ⟨u0, p0⟩ := hp.p0
  obtain ⟨u1, p1⟩ := hp.p1
  obtain ⟨u2, p2⟩ := hp.p2
  refine ⟨h.k.trans ((KeepsOthers.of_grownBy hg fun j o ej hj => ?_).from _), h.kp.trans (Kp.grown hg hp.below.size (fun k hk => Kd.R_base hp.rows k hk) ?_), Nat.le_trans h.size hg.size⟩
  · obtain ⟨cells, hcl⟩ := Kd.R_typed hp.rows j ej
    rw [hcl] at hj; cases hj; rfl
  · rintro r (rfl | rfl | rfl)
    · exact ⟨p0.lt, Kd.R_ne hp.rows p0 (by decide)⟩
    · exact ⟨p1.lt, Kd.R_ne hp.rows p1 (by decide)⟩
    · exact ⟨p2.lt, Kd.R_ne hp.rows p2 (by decide)⟩
theorem PI.ab (w0 : World) (s : ByteArray) (n : Nat) (hn : w0.heap.size + 8 ≤ n) : AbO (Pv3 (w0.heap.size + 5)) n (PIx w0 s) :=
  ⟨fun _ _ _ _ ⟨evs, v, h⟩ hg hr => ⟨evs, v, h.law, h.le, h.b.grown hg (fun r e => ⟨Nat.le_trans hn (hr r e).1, (hr r e).2⟩)⟩, fun _ _ _ x hr ⟨evs, v, h⟩ => ⟨evs, v, h.law, h.le, h.b.own x hr⟩⟩
theorem PX.ab (w0 : World) (s : ByteArray) (n : Nat) (hn : w0.heap.size + 8 ≤ n) (c : Code) : AbO (Pv3 (w0.heap.size + 5)) n (PXx w0 s c) := by
  refine ⟨?_, ?_⟩
  · rintro pre A C row ⟨hc, a, b, h⟩ hg hr
    exact ⟨hc, a, b, h.law, h.r0.kept hg (not_cells hr h.r0), h.r1.kept hg (not_cells hr h.r1), h.r2.kept hg (not_cells hr h.r2), h.below.grown hg h.below.size (fun k e => by have := (hr k e).1; omega)⟩
  · rintro pre A r x hr ⟨hc, a, b, h⟩
    have hrn : w0.heap.size + 5 ≤ r := by rcases hr with rfl | rfl | rfl <;> omega
    exact ⟨hc, a, b, h.law, h.r0.other (by omega) x, h.r1.other (by omega) x, h.r2.other (by omega) x, h.below.setCell (p := ⟨r, 0, none⟩) (by show w0.heap.size ≤ r; omega) x⟩
/-- So many places moved on. -/
def shiftK (k : Nat) (d : Int) (l : List Int) : List Int := (l.take k).map (· + d) ++ l.drop k
theorem shiftK_len (k : Nat) (d : Int) (l : List Int) : (shiftK k d l).length = l.length := by unfold shiftK; simp; omega
theorem shiftK_zero (d : Int) (l : List Int) : shiftK 0 d l = l := by simp [shiftK]
theorem shiftK_all (d : Int) (l : List Int) (k : Nat) (h : k = l.length) : shiftK k d l = shift d l := by subst h; simp [shiftK, shift]
theorem shiftK_at (k : Nat) (d : Int) (l : List Int) (h : k < l.length) : rd (shiftK k d l) (k : Int) = rd l (k : Int) := by
  unfold rd shiftK
  rw [Int.toNat_natCast, List.getD_eq_getElem?_getD, List.getD_eq_getElem?_getD, List.getElem?_append_right (by simp; omega)]
  simp [Nat.min_eq_left (Nat.le_of_lt h)]
theorem shiftK_succ (k : Nat) (d : Int) (l : List Int) (h : k < l.length) : (shiftK k d l).set k (rd l (k : Int) + d) = shiftK (k + 1) d l := by
  have e : rd l (k : Int) = l[k] := by
    unfold rd
    rw [Int.toNat_natCast, List.getD_eq_getElem?_getD, List.getElem?_eq_getElem h]; rfl
  apply List.ext_getElem?
  intro i
  rw [e]
  unfold shiftK
  rcases Nat.lt_trichotomy i k with h1 | h1 | h1
  · rw [List.getElem?_set_ne (by omega), List.getElem?_append_left (by simp; omega), List.getElem?_append_left (by simp; omega)]
    simp [List.getElem?_take, h1, Nat.lt_succ_of_lt h1]
  · subst h1
    rw [List.getElem?_set_self (by simp; omega), List.getElem?_append_left (by simp; omega)]
    simp [List.getElem?_take, h]
  · rw [List.getElem?_set_ne (by omega), List.getElem?_append_right (by simp; omega), List.getElem?_append_right (by simp; omega)]
    simp [Nat.min_eq_left (Nat.le_of_lt h), Nat.min_eq_left (Nat.succ_le_of_lt h)]
    congr 1
    omega
theorem R_at0 {k : IntKind} {e base : Nat} {W : World} {ok : Nat → Prop} {A : Option Addr} {n c : Nat} {xs : List Int} (h : (Kd.int k).R e W base ok (.slice A n c) xs) (hn : 0 < xs.length) : ∃ g, A = some ⟨g, 0, none⟩ := by
  obtain ⟨_, inner, hown, _⟩ := h
  rcases hown.2 with ⟨h1, h0⟩ | ⟨g, cap, cur, h1, _⟩
  · omega
  · cases h1; exact ⟨g, rfl⟩
/-- A line whose places are being moved on. -/
structure LSt (W wr : World) (g8 : Nat) (v0 v1 : Value) (ws : List ByteArray) (a : List Int) (en : Int) : Prop where
  blk : wr.heap[g8]? = some (.cells #[v0, v1, .int .i64 en] 81 (0, 0))
  words : Kd.R Kd.string 9 wr W.heap.size (fun _ => True) v0 ws
  ats : Kd.R (Kd.int .i64) 3 wr W.heap.size (fun _ => True) v1 a
  below : Below W.heap.size W wr
  old : W.heap.size ≤ g8
theorem LSt.put {W wr : World} {g8 g c k n : Nat} {v0 : Value} {ws : List ByteArray} {a : List Int} {en y : Int} {ao : Nat} (h : LSt W wr g8 v0 (.slice (some ⟨g, 0, none⟩) n c) ws a en) (ha : ao = k) (hk : k < a.length) (hn : n = a.length) :
    LSt W (wr.setCell ⟨g, ao, none⟩ (.int .i64 y)) g8 v0 (.slice (some ⟨g, 0, none⟩) n c) ws (a.set k y) en := by
  subst ha
  subst hn
  obtain ⟨cells, hc⟩ := Kd.R_typed h.ats g rfl
  have hg := Kd.R_base h.ats g rfl
  have hne : g8 ≠ g := by
    intro e
    have := h.blk
    rw [e, hc] at this
    cases this
  have hp := (Kd.R_put h.ats (ao : Int) y).1
  rw [Int.toNat_natCast] at hp
  exact ⟨(Below.heap_setCell wr ⟨g, ao, none⟩ _ g8 hne).trans h.blk, Kd.R_set h.words hc (by decide) ao _, hp, h.below.setCell (p := ⟨g, ao, none⟩) hg _, h.old⟩
theorem LSt.drew {W wr : World} {g8 : Nat} {v0 v1 : Value} {ws : List ByteArray} {a : List Int} {en : Int} (h : LSt W wr g8 v0 v1 ws a en) : LSt W wr.drew g8 v0 v1 ws a en :=
  have hb : Below wr.heap.size wr wr.drew := below_drew (Below.refl _ _)
  have hg : wr.grownBy wr.drew none := ⟨hb.os, hb.tape, hb.output, hb.size, fun k hk _ => hb.block k hk⟩
  ⟨(hb.block g8 (blk_lt h.blk)).trans h.blk, Kd.R_grown h.words hg (fun k _ e => by cases e), Kd.R_grown h.ats hg (fun k _ e => by cases e), h.below.trans (hb.mono h.below.size), h.old⟩
theorem LSt.facts {W wr : World} {g8 g c k n : Nat} {v0 : Value} {ws : List ByteArray} {a : List Int} {en : Int} (h : LSt W wr g8 v0 (.slice (some ⟨g, 0, none⟩) n c) ws a en) (hk : k < a.length) :
    g ≠ g8 ∧ W.heap.size ≤ g ∧ wr.cell? ⟨g, k, none⟩ = some (.int .i64 (rd a (k : Int))) ∧ wr.frozen? ⟨g, k, none⟩ = false ∧ wr.cell? ⟨g8, 1, none⟩ = some (.slice (some ⟨g, 0, none⟩) n c) := by
  obtain ⟨cells, hc⟩ := Kd.R_typed h.ats g rfl
  have hg := Kd.R_base h.ats g rfl
  refine ⟨?_, hg, ?_, ?_, (blk_cell h.blk 1).trans rfl⟩
  · intro e
    have := h.blk
    rw [← e, hc] at this
    cases this
  · obtain ⟨hn, hcap, hC⟩ := Kd.R_reads' h.ats
    obtain ⟨ad, e, hx⟩ := Kd.at_int hC (k : Int) (by omega) (by omega)
    cases e
    rw [Int.toNat_natCast] at hx
    by_cases h0 : k = 0
    · subst h0; simpa [Addr.add] using hx
    · simpa [Addr.add, h0] using hx
  · exact blk_frozen hc k
theorem LSt.line {W wr : World} {g8 r n c0 c1 : Nat} {A0 A1 : Option Addr} {ws : List ByteArray} {a : List Int} {en : Int} {u : Value} (h : LSt W wr g8 (.slice A0 n c0) (.slice A1 n c1) ws a en) (hb : Boxed wr r 3 u) (hr : r < W.heap.size) (y : Value) (h1 : ws.length = n) (h2 : a.length = n) :
    LineAt (wr.setCell ⟨r, 0, none⟩ y) g8 A0 ws c0 A1 a c1 en ∧ ws.length ≤ c0 ∧ a.length ≤ c1 := by
  subst h1
  have ho := h.old
  have hw := Kd.R_set h.words hb (by decide) 0 y
  have ha := Kd.R_grown (Kd.R_bound h.ats) (grownBy_setCell' wr r y) (fun k hk e => by cases e; have := hk.2.1; omega)
  obtain ⟨_, hl0, hC0⟩ := Kd.R_reads' hw
  obtain ⟨_, hl1, hC1⟩ := Kd.R_reads' ha
  refine ⟨⟨?_, hC0, hC1⟩, hl0, by omega⟩
  have hb := (Below.heap_setCell wr ⟨r, 0, none⟩ y g8 (by show g8 ≠ r; omega)).trans h.blk
  rw [h2]
  exact hb
theorem law_blank {pre : List ByteArray} {x : ByteArray} {evs : List S34} (h : ∀ rest, linesT (pre ++ rest) 0 [] = linesT rest (sumN pre) evs) (h0 : (wsS x).length = 0) : ∀ rest, linesT ((pre ++ [x]) ++ rest) 0 [] = linesT rest (sumN (pre ++ [x])) evs := by
  intro rest
  rw [List.append_assoc, h ([x] ++ rest)]
  show linesT (x :: rest) _ _ = _
  rw [linesT, if_pos h0, sumN_app]
  have : sumN [x] = x.size + 1 := by simp [sumN]
  rw [this]
  congr 1
theorem law_good {pre : List ByteArray} {x : ByteArray} {evs : List S34} {e : S34} {a b : Int} (h : ∀ rest, linesT (pre ++ rest) 0 [] = linesT rest (sumN pre) evs) (h0 : (wsS x).length ≠ 0) (ht : tev (wsS x) (shift (sumN pre : Int) (atsS x)) ((sumN pre : Int) + x.size) evs = (e, a, b)) (hb : b = 0) : ∀ rest, linesT ((pre ++ [x]) ++ rest) 0 [] = linesT rest (sumN (pre ++ [x])) (evs ++ [e]) := by
  intro rest
  rw [List.append_assoc, h ([x] ++ rest)]
  show linesT (x :: rest) _ _ = _
  rw [linesT, if_neg h0, ht, if_neg (by simp [hb]), sumN_app]
  have : sumN [x] = x.size + 1 := by simp [sumN]
  rw [this]
  congr 1
theorem law_bad {s : ByteArray} {pre : List ByteArray} {x : ByteArray} {evs : List S34} {e : S34} {a b : Int} (hp : pre ++ [x] <+: rowsS s) (h : ∀ rest, linesT (pre ++ rest) 0 [] = linesT rest (sumN pre) evs) (h0 : (wsS x).length ≠ 0) (ht : tev (wsS x) (shift (sumN pre : Int) (atsS x)) ((sumN pre : Int) + x.size) evs = (e, a, b)) (hb : b ≠ 0) : linesT (rowsS s) 0 [] = ([], a, b) := by
  obtain ⟨t, ht2⟩ := hp
  rw [← ht2, List.append_assoc, h ([x] ++ t)]
  show linesT (x :: t) _ _ = _
  rw [linesT, if_neg h0, ht, if_pos hb]
theorem tev_bad5 {ws : List ByteArray} {ats : List Int} {en : Int} {evs : List S34} {e : S34} {a b : Int} (h : tev ws ats en evs = (e, a, b)) (hb : b = 0) : evs.length ≠ 60 := by
  intro h60
  unfold tev at h
  rw [if_pos h60] at h
  simp only [Prod.mk.injEq] at h
  omega
def text_Parse.f (s : ByteArray) : Option (List S34 × Int × Int) := some (if s.size > 3000 then ([], 0, 5) else linesT (rowsS s) 0 [])
set_option maxHeartbeats 2000000 in
set_option maxRecDepth 100000 in
theorem parse_in (s : ByteArray) (hs : s.size ≤ 3000) (w : World) (hT : KTab w) (r1 : List S34) (r2 r3 : Int) (hr : linesT (rowsS s) 0 [] = (r1, r2, r3)) :
    CallsIn Fence.wide 0 Tryd.prog 27 #[.string s] w fun e W' => ∃ v, e = .returned (.tuple #[v, .int .i64 r2, .int .i64 r3]) ∧ Kd.R k34 34 W' w.heap.size (fun _ => True) v r1 ∧ Below w.heap.size w W' := by
  have HT := Lib.hid hT
  have HR := Lib.hid hr
  have hd : decide (3000 < (s.size : Int)) = false := decide_eq_false (by omega)
  refine callsIn_of_wp_marks Tryd.func27 rfl trivial ?_ rfl
  simp only [Tryd.ntmps27, List.size_toArray, List.length_cons, List.length_nil, Nat.reduceAdd, Nat.reduceSub, Array.replicate_succ, Array.replicate_zero, List.push_toArray, List.append_toArray, List.nil_append, List.cons_append]
  gi_wp2_with (gi_at_call 60; refine (callsIn_wide.2 (SplitSeq_run _ _)).mono ?_; rintro e w' ⟨rfl, rfl⟩)
  simp only [Nat.add_assoc, Nat.reduceAdd]
  obtain ⟨w5, hw5⟩ : ∃ w5, w5 = (((((w.alloc (.cells #[.slice none 0 0] 22)).alloc (.cells #[.int .i64 0] 3)).alloc (.cells #[.int .i64 0] 24)).alloc (.cells #[.slice none 0 0] 22)).alloc (.cells #[.int .i64 0] 3)) := ⟨_, rfl⟩
  have hz5 : w5.heap.size = w.heap.size + 5 := by rw [hw5]; simp
  have hb5 : Below w.heap.size w w5 := by rw [hw5]; exact below_alloc (below_alloc (below_alloc (below_alloc (below_alloc (Below.refl _ _) _) _) _) _) _
  have q4 : Boxed w5 (w.heap.size + 4) 3 (.int .i64 0) := by
    have := Boxed.new ((((w.alloc (.cells #[.slice none 0 0] 22)).alloc (.cells #[.int .i64 0] 3)).alloc (.cells #[.int .i64 0] 24)).alloc (.cells #[.slice none 0 0] 22)) 3 (.int .i64 0)
    rw [← hw5] at this
    simpa using this
  have q3 : Boxed w5 (w.heap.size + 3) 22 (.slice none 0 0) := by
    have := (Boxed.new (((w.alloc (.cells #[.slice none 0 0] 22)).alloc (.cells #[.int .i64 0] 3)).alloc (.cells #[.int .i64 0] 24)) 22 (.slice none 0 0)).alloc (.cells #[.int .i64 0] 3)
    rw [← hw5] at this
    simpa using this
  have q2 : Boxed w5 (w.heap.size + 2) 24 (.int .i64 0) := by
    have := ((Boxed.new ((w.alloc (.cells #[.slice none 0 0] 22)).alloc (.cells #[.int .i64 0] 3)) 24 (.int .i64 0)).alloc (.cells #[.slice none 0 0] 22)).alloc (.cells #[.int .i64 0] 3)
    rw [← hw5] at this
    simpa using this
  have q1 : Boxed w5 (w.heap.size + 1) 3 (.int .i64 0) := by
    have := (((Boxed.new (w.alloc (.cells #[.slice none 0 0] 22)) 3 (.int .i64 0)).alloc (.cells #[.int .i64 0] 24)).alloc (.cells #[.slice none 0 0] 22)).alloc (.cells #[.int .i64 0] 3)
    rw [← hw5] at this
    simpa using this
  have q0 : Boxed w5 w.heap.size 22 (.slice none 0 0) := by
    have := ((((Boxed.new w 22 (.slice none 0 0)).alloc (.cells #[.int .i64 0] 3)).alloc (.cells #[.int .i64 0] 24)).alloc (.cells #[.slice none 0 0] 22)).alloc (.cells #[.int .i64 0] 3)
    rw [← hw5] at this
    simpa using this
  rw [← hw5]
  obtain ⟨p0, p1, p2, hz8, hb8⟩ := boxes3_at w5 s
  have hseq := split_seq (boxes3 w5 s) w5.heap.size w.heap.size (by omega) s (by omega) p0 p1 p2
  have hB8 : Below w.heap.size w (boxes3 w5 s) := hb5.trans (hb8.mono (by omega))
  rw [hz5] at p0 p1 p2 hseq hz8
  have hP0 : PI w s [] [] (.slice none 0 0) (boxes3 w5 s) :=
    ⟨fun rest => rfl, by simp, (hb8.block _ q0.lt).trans q0, (hb8.block _ q1.lt).trans q1, (hb8.block _ q2.lt).trans q2, (hb8.block _ q3.lt).trans q3, (hb8.block _ q4.lt).trans q4, Kd.R_nil _ _ _ _ _, hB8, ⟨_, p0⟩, ⟨_, p1⟩, ⟨_, p2⟩⟩
  have hsz0 : w.heap.size + 8 ≤ (boxes3 w5 s).heap.size := by omega
  obtain ⟨w8, hw8⟩ : ∃ w8, w8 = boxes3 w5 s := ⟨_, rfl⟩
  rw [← hw8] at hseq hP0 hsz0 hz8 hB8 ⊢
  clear hw8 hw5 hz5 hb5 q0 q1 q2 q3 q4 p0 p1 p2 hb8
  simp only [Nat.add_assoc, Nat.reduceAdd] at hseq ⊢
  refine wpIn_range (gf := 106) (lb := #[.pointer (some ⟨w.heap.size + 6, 0, none⟩), .pointer (some ⟨w.heap.size + 5, 0, none⟩), .pointer (some ⟨w.heap.size + 7, 0, none⟩)]) (n0 := w.heap.size) (Pv := Pv3 (w.heap.size + 5)) ?hg (enters_of Tryd.func106 (by kernel_rfl) rfl)
    (fun r hr => by rcases hr with rfl | rfl | rfl <;> omega) (by omega) hseq ?hps
    (PIx w s) (PXx w s) (PI.ab w s _ hsz0) (fun c => PX.ab w s _ hsz0 c) ⟨_, _, hP0⟩
    (fun x => { tmps := #[.string s, undef, .pointer (some ⟨w.heap.size, 0, none⟩), .pointer (some ⟨w.heap.size + 1, 0, none⟩), .pointer (some ⟨w.heap.size + 2, 0, none⟩), .pointer (some ⟨w.heap.size + 3, 0, none⟩), .pointer (some ⟨w.heap.size + 4, 0, none⟩), .string x, undef, undef, undef, undef, undef, .string s, .int .i64 (s.size : Int), .bool false, .string s, .func (.func 106) #[] #[.pointer (some ⟨w.heap.size + 6, 0, none⟩), .pointer (some ⟨w.heap.size + 5, 0, none⟩), .pointer (some ⟨w.heap.size + 7, 0, none⟩)], .string x, undef, undef, undef, undef, undef, undef, undef, undef, undef, undef, undef, undef, undef, undef, undef, undef, undef, undef, undef, undef, undef, undef, undef, undef, undef, undef, undef, undef, undef, undef, undef, undef, undef, undef, undef, undef, undef, undef, undef, undef, undef, undef, undef, undef, undef, undef, undef, undef, undef, undef, undef, undef], defers := [] }) ?assign ?body ?done ?stop
  case hg => rfl
  case hps => intro _; rfl
  case assign =>
    intro l x W K hK
    gi_wp2
    exact hK
  case body =>
    rintro l pre x W hpre ⟨evs, v, hI⟩ hsz
    obtain ⟨Av, cv, rfl⟩ := Kd.R_slice hI.b.rows
    have HPRE := Lib.hid hpre
    have HKB : Hid (∀ C, KeepsFrom (w.heap.size + 8) W C → KeepsFrom w8.heap.size W C) := Lib.hid (fun C h => by rw [show w8.heap.size = w.heap.size + 8 by omega]; exact h)
    have hps := pre_sum hpre
    have c4 := hI.b.fr.cell
    have HI := Lib.hid hI
    have hxs : x.size ≤ 3000 := by omega
    obtain ⟨A, hA⟩ := words_ev x (by omega)
    have HW : Hid (∀ W', CallsIn Fence.wide 0 Tryd.prog 34 #[.string x] W' fun e w' => ∃ v0_ v1_ : Value, e = .returned (.tuple #[v0_, v1_]) ∧ Kd.R Kd.string 9 w' W'.heap.size (fun _ => True) v0_ (wsS x) ∧ Kd.R (Kd.int .i64) 3 w' W'.heap.size (fun _ => True) v1_ (atsS x) ∧ Below W'.heap.size W' w') :=
      Lib.hid (fun W' => callsIn_wide.2 (word_Words.calls A x (wsS x) (atsS x) W' (hA A (Nat.le_refl _))))
    clear hA A hpre hI
    gi_upto_region 8 with (fail)
    obtain ⟨g8, hg8⟩ : ∃ g8, g8 = W.heap.size := ⟨_, rfl⟩
    obtain ⟨W1, hW1⟩ : ∃ W1, W1 = W.alloc (.cells #[.slice none 0 0, .slice none 0 0, .int .i64 ((sumN pre : Int) + (x.size : Int))] 81) := ⟨_, rfl⟩
    have hX1 : W1.heap[g8]? = some (.cells #[.slice none 0 0, .slice none 0 0, .int .i64 ((sumN pre : Int) + (x.size : Int))] 81 (0, 0)) := by rw [hg8, hW1]; exact heap_alloc_new W _
    have hB1 : Below W.heap.size W W1 := by rw [hW1]; exact below_alloc (Below.refl _ _) _
    rw [← hW1]
    have HX1 := Lib.hid hX1
    have HB1 := Lib.hid hB1
    have HG8 := Lib.hid hg8
    rw [← hg8]
    clear hW1 hX1 hB1 hg8 c4
    gi_upto_region 9 with (gi_at_call 34; refine (HW.out _).mono ?_; rintro e w2 ⟨v0, v1, rfl, hr0, hr1, hb2⟩; obtain ⟨A0, c0, rfl⟩ := Kd.R_slice hr0; obtain ⟨A1, c1, rfl⟩ := Kd.R_slice hr1; have HR0 := Lib.hid hr0; have HR1 := Lib.hid hr1; have HB2 := Lib.hid hb2; have hbk := (hb2.block g8 (blk_lt HX1.out)).trans HX1.out; have y0 := blk_cell hbk 0; have y1 := blk_cell hbk 1; have u0 := blk_frozen hbk 0; have u1 := blk_frozen hbk 1; have HX2 := Lib.hid hbk; clear hr0 hr1 hb2 hbk)
    obtain ⟨W3, hW3⟩ : ∃ W3, W3 = (w2.setCell ⟨g8, 0, none⟩ (.slice A0 (wsS x).length c0)).setCell ⟨g8, 1, none⟩ (.slice A1 (atsS x).length c1) := ⟨_, rfl⟩
    have hL3 : LSt W W3 g8 (.slice A0 (wsS x).length c0) (.slice A1 (atsS x).length c1) (wsS x) (atsS x) ((sumN pre : Int) + (x.size : Int)) := by
      have hle : W.heap.size ≤ g8 := by rw [HG8.out]; exact Nat.le_refl _
      have hle1 : W.heap.size ≤ W1.heap.size := HB1.out.size
      rw [hW3]
      refine ⟨?_, Kd.R_set (Kd.R_set (Kd.R_lower HR0.out hle1) HX2.out (by decide) 0 _) (blk_set HX2.out 0 _) (by decide) 1 _, Kd.R_set (Kd.R_set (Kd.R_lower HR1.out hle1) HX2.out (by decide) 0 _) (blk_set HX2.out 0 _) (by decide) 1 _, ?_, hle⟩
      · have := blk_set (blk_set HX2.out 0 (.slice A0 (wsS x).length c0)) 1 (.slice A1 (atsS x).length c1)
        simpa using this
      · exact ((HB1.out.trans (HB2.out.mono hle1)).setCell (p := ⟨g8, 0, none⟩) hle _).setCell (p := ⟨g8, 1, none⟩) hle _
    have HL3 := Lib.hid hL3
    rw [← hW3]
    clear hW3 hL3 HR0 HR1 HB2 HX2 HX1 HB1 y0 y1 u0 u1
    obtain ⟨a0, ha0⟩ : ∃ a0, a0 = atsS x := ⟨_, rfl⟩
    have hal : (wsS x).length = a0.length := by rw [ha0]; exact wsS_len x
    have HIN : Hid (∀ y ∈ a0, 0 ≤ y ∧ y ≤ x.size) := Lib.hid (by rw [ha0]; exact atsS_in x)
    have hle := wsS_le x
    have HA0 := Lib.hid ha0
    rw [← ha0] at HL3 ⊢
    obtain ⟨nn, hnn⟩ : ∃ nn, nn = a0.length := ⟨_, rfl⟩
    rw [← hnn] at HL3 hal ⊢
    rw [hal] at HL3 hle ⊢
    have HNN := Lib.hid hnn
    have HAL := Lib.hid hal
    clear hal ha0 hnn
    obtain ⟨fr, hfr⟩ : ∃ fr, fr = sumN pre := ⟨_, rfl⟩
    rw [← hfr] at hps HL3 ⊢
    have HFR := Lib.hid hfr
    clear hfr
    have z1 := (blk_cell HL3.out.blk 1).trans rfl
    gi_wp2
    clear z1
    gi_loopw [34] (fun v34 wr => ∃ k : Nat, k ≤ nn ∧ v34 = .int .i64 (k : Int) ∧ Hid (LSt W wr g8 (.slice A0 nn c0) (.slice A1 nn c1) (wsS x) (shiftK k (fr : Int) a0) ((fr : Int) + (x.size : Int)))) (fun v34 _ => nn - (intOf v34).toNat)
    case atStart => exact ⟨0, Nat.zero_le _, rfl, Lib.hid (by rw [shiftK_zero]; exact HL3.out)⟩
    case round =>
      obtain ⟨k, hk, rfl, HK⟩ := hrel
      by_cases hlt : k < nn
      · obtain ⟨g, hA1⟩ := R_at0 HK.out.ats (by rw [shiftK_len, ← HNN.out]; omega)
        subst hA1
        obtain ⟨f1, f2, f3, f4, f5⟩ := HK.out.facts (k := k) (by rw [shiftK_len, ← HNN.out]; omega)
        rw [shiftK_at k (fr : Int) a0 (by rw [← HNN.out]; omega)] at f3
        have hin := HIN.out (rd a0 (k : Int)) (by
          have : rd a0 (k : Int) = a0[k]'(by rw [← HNN.out]; omega) := by
            unfold rd
            rw [Int.toNat_natCast, List.getD_eq_getElem?_getD, List.getElem?_eq_getElem]; rfl
          rw [this]
          exact List.getElem_mem _)
        obtain ⟨y, hy⟩ : ∃ y, y = rd a0 (k : Int) := ⟨_, rfl⟩
        rw [← hy] at f3 hin
        have HY := Lib.hid hy
        clear hy
        have hn4 : w.heap.size + 4 ≠ g := by omega
        have hn5 : g ≠ w.heap.size + 4 := by omega
        have hlt0 : w.heap.size + 4 < W.heap.size := by omega
        have c4 := (HK.out.below.cell (p := ⟨w.heap.size + 4, 0, none⟩) hlt0).trans HI.out.b.fr.cell
        rw [← HFR.out] at c4
        have f6 : g8 ≠ g := Ne.symm f1
        have k1 : (k : Int) < nn := by omega
        gi_upto_region 12 with (fail)
        gi_region
        gi_wp2
        all_goals
          refine ⟨⟨k + 1, by omega, by go_num, Lib.hid ?_⟩, by simp [intOf]; omega⟩
          rw [← shiftK_succ k (fr : Int) a0 (by rw [← HNN.out]; omega), ← HY.out]
          exact (HK.out.put (ao := k) (k := k) (y := y + (fr : Int)) rfl (by rw [shiftK_len, ← HNN.out]; omega) (by rw [shiftK_len]; exact HNN.out)).drew
      · obtain rfl : k = nn := by omega
        have HL := HK.out
        rw [shiftK_all (fr : Int) a0 k HNN.out] at HL
        have HL6 := Lib.hid HL
        have hw0 : KK w.heap.size W wr := KK.call ⟨KeepsFrom.refl _ _, Kp.refl _ _ _, by omega⟩ HL.below
        have hPB := HI.out.b.call HL.below
        rw [← HFR.out] at hPB
        have HP := Lib.hid hPB
        have HKK := Lib.hid hw0
        have hdd : decide ((k : Int) < (k : Int)) = false := decide_eq_false (by omega)
        have c4 := hPB.fr.cell
        have e4 := hPB.fr.frozen
        clear hPB HL hw0 HK HL3
        gi_upto_region 15 with (fail)
        obtain ⟨hL4, hc0, hc1⟩ := HL6.out.line (r := w.heap.size + 4) HP.out.fr (by omega) (.int .i64 ((fr : Int) + ((x.size : Int) + 1))) HAL.out (by rw [shift_len]; exact HNN.out.symm)
        obtain ⟨W4, hW4⟩ : ∃ W4, W4 = wr.setCell ⟨w.heap.size + 4, 0, none⟩ (.int .i64 ((fr : Int) + ((x.size : Int) + 1))) := ⟨_, rfl⟩
        have HP4 : Hid (PB w ((fr : Int) + ((x.size : Int) + 1)) evs (.slice Av evs.length cv) W4) := Lib.hid (by rw [hW4]; exact HP.out.set4 _)
        have HK4 : Hid (KK w.heap.size W W4) := Lib.hid (by rw [hW4]; exact HKK.out.set 4 (by omega) _)
        rw [← hW4] at hL4 ⊢
        have HL4 := Lib.hid hL4
        have HC0 := Lib.hid hc0
        have HC1 := Lib.hid hc1
        obtain ⟨z0, z1, z2⟩ := hL4.cells
        rw [HAL.out] at z0
        rw [shift_len, ← HNN.out] at z1
        clear hL4 hW4 hc0 hc1 c4 e4 HP HKK HL6
        have hex : fr + (x.size + 1) = sumN (pre ++ [x]) := by
          rw [sumN_app, HFR.out]; simp [sumN]
        have HFX := Lib.hid hex
        clear hex
        have ci3 := HP4.out.out.cell
        by_cases hk0 : k = 0
        · subst hk0
          gi_wp2
          refine ⟨HKB.out _ HK4.out.k, HK4.out.kp, evs, .slice Av evs.length cv, law_blank HI.out.law HAL.out, HI.out.le, ?_⟩
          rw [← HFX.out]
          exact HP4.out
        · have e0 : ((k : Int) == 0) = false := by simpa using hk0
          obtain ⟨⟨ev, ea, eb⟩, hev⟩ : ∃ n, tev (wsS x) (shift (fr : Int) a0) ((fr : Int) + (x.size : Int)) evs = n := ⟨_, rfl⟩
          have HEV := Lib.hid hev
          have hce := (Kd.R_reads' HP4.out.rows).2.1
          have HE : Hid (∀ w', Below W4.heap.size W4 w' → CallsIn Fence.wide 0 Tryd.prog 61 #[.agg #[.slice A0 k c0, .slice A1 k c1, .int .i64 ((fr : Int) + (x.size : Int))], .slice Av evs.length cv] w' fun x w'' => x = .returned (.tuple #[.agg #[.int .i64 ev.f0, .int .i64 ev.f1, .int .i64 ev.f2, .int .i64 ev.f3], .int .i64 ea, .int .i64 eb]) ∧ Below w'.heap.size w' w'') := Lib.hid (by
            intro w' hb
            have hl := HL4.out.below hb
            have hp := HP4.out.call hb
            have hsl : (shift (fr : Int) a0).length = k := by rw [shift_len]; exact HNN.out.symm
            have h := event_any A0 (wsS x) c0 A1 (shift (fr : Int) a0) c1 ((fr : Int) + (x.size : Int)) Av evs cv w' (HT.out.below hp.below) hl.words HC0.out hl.ats HC1.out (Kd.R_reads' hp.rows).2.2 hce (by rw [HAL.out]; omega) (by rw [HAL.out, hsl]) (fun y hy => by have := wsS_size x y hy; omega) HI.out.le (by rw [HAL.out]; omega) ev ea eb HEV.out
            rw [HAL.out, hsl] at h
            exact callsIn_wide.2 h)
          clear hev
          gi_upto_region 17 with (gi_at_call 61; refine (HE.out _ (Below.refl _ _)).mono ?_; rintro e w5 ⟨rfl, hb5⟩; have HB5 := Lib.hid hb5; clear hb5)
          obtain ⟨W6, hW6⟩ : ∃ W6, W6 = w5.alloc (.cells #[.int .i64 ev.f0, .int .i64 ev.f1, .int .i64 ev.f2, .int .i64 ev.f3] 34) := ⟨_, rfl⟩
          obtain ⟨g10, hg10⟩ : ∃ g10, g10 = w5.heap.size := ⟨_, rfl⟩
          have hB6 : Below w5.heap.size w5 W6 := by rw [hW6]; exact below_alloc (Below.refl _ _) _
          have hX6 : W6.heap[g10]? = some (.cells #[.int .i64 ev.f0, .int .i64 ev.f1, .int .i64 ev.f2, .int .i64 ev.f3] 34 (0, 0)) := by rw [hg10, hW6]; exact heap_alloc_new w5 _
          have HP6 := Lib.hid ((HP4.out.call HB5.out).call hB6)
          have HK6 := Lib.hid ((HK4.out.call HB5.out).call hB6)
          rw [← hW6, ← hg10]
          have y0 := (blk_cell hX6 0).trans rfl
          have y1 := (blk_cell hX6 1).trans rfl
          have y2 := (blk_cell hX6 2).trans rfl
          have y3 := (blk_cell hX6 3).trans rfl
          clear hW6 hg10 hB6 HB5 HE HP4 HK4 z0 z1 z2 ci3
          by_cases hbad : eb ≠ 0
          · have e1 : (eb != 0) = true := by simpa using hbad
            have ci0 := HP6.out.r0.cell
            have cf0 := HP6.out.r0.frozen
            have ci1 := HP6.out.r1.cell
            have cf1 := HP6.out.r1.frozen
            have ci2 := HP6.out.r2.cell
            have cf2 := HP6.out.r2.frozen
            gi_wp2
            have hev := HEV.out
            rw [HFR.out, HA0.out] at hev
            refine ⟨HKB.out _ (((HK6.out.set 0 (by omega) _).set 1 (by omega) _).set 2 (by omega) _).k, rfl, ea, eb, law_bad HPRE.out HI.out.law (by rw [HAL.out]; exact hk0) hev hbad, ?_, ?_, ?_, ?_⟩
            · exact ((HP6.out.r0.set _).other (by omega) _).other (by omega) _
            · exact ((HP6.out.r1.other (by omega) _).set _).other (by omega) _
            · exact ((HP6.out.r2.other (by omega) _).other (by omega) _).set _
            · exact ((HP6.out.below.setCell (p := ⟨w.heap.size, 0, none⟩) (Nat.le_refl _) _).setCell (p := ⟨w.heap.size + 1, 0, none⟩) (by show w.heap.size ≤ w.heap.size + 1; omega) _).setCell (p := ⟨w.heap.size + 2, 0, none⟩) (by show w.heap.size ≤ w.heap.size + 2; omega) _
          · obtain rfl : eb = 0 := by omega
            have h60 := tev_bad5 HEV.out rfl
            have ci3 := HP6.out.out.cell
            have hbase := HP6.out.below.size
            have hlen : (evs.length + 1) * 32 ≤ 140737488355328 := by have := HI.out.le; omega
            have hne : ∀ {B t : Nat} {u : Value}, Boxed W6 B t u → 34 ≠ t → some B ≠ (Value.slice Av evs.length cv).ownBlock := fun hb ht => Kd.R_ne HP6.out.rows hb ht
            have HNE := Lib.hid (hne HP6.out.out (by decide))
            clear hne hbad
            gi_upto_region 19 with (fail)
            gi_wp2_with (gi_at_builtin; refine R_appendIn k34 w.heap.size rfl _ _ 22 34 (.agg #[(.int .i64 0), (.int .i64 0), (.int .i64 0), (.int .i64 0)]) 32 rfl Tryd.underlying22 infoEv rfl (by decide) (by decide) (.slice Av evs.length cv) evs ev [.int .i64 ev.f0, .int .i64 ev.f1, .int .i64 ev.f2, .int .i64 ev.f3] (fun _ => True) (fun _ => False) rfl rfl (k34_mkM _ _ _ ev) (fun _ h => h.elim) (fun _ _ => trivial) HP6.out.rows hbase hlen ?_; intro v1 w7 hR1 hg1 hat1; obtain ⟨A7, c7, rfl⟩ := Kd.R_slice hR1; rw [show (evs ++ [ev]).length = evs.length + 1 by simp] at hR1 hat1; have hv1 := HP6.out.out.kept hg1 HNE.out; have hc7 := hv1.cell; have hf7 := hv1.frozen)
            have hev := HEV.out
            rw [HFR.out, HA0.out] at hev
            have hk7 := (HK6.out.app HP6.out hg1).set 3 (by omega) (.slice A7 (evs.length + 1) c7)
            refine ⟨HKB.out _ hk7.k, hk7.kp, evs ++ [ev], .slice A7 (evs.length + 1) c7, law_good HI.out.law (by rw [HAL.out]; exact hk0) hev rfl, by have := HI.out.le; simp; omega, ?_⟩
            rw [← HFX.out]
            exact HP6.out.app hg1 hR1
  case done =>
    rintro D W' hD ⟨evs, v, h⟩ hK
    have hl := h.law []
    rw [List.append_nil, HR.out] at hl
    have hl2 : r1 = evs ∧ r2 = 0 ∧ r3 = 0 := by
      rw [linesT] at hl
      simp only [Prod.mk.injEq] at hl
      exact hl
    obtain ⟨rfl, rfl, rfl⟩ := hl2
    obtain ⟨Av, cv, rfl⟩ := Kd.R_slice h.b.rows
    have ci0 := h.b.r0.cell
    have cf0 := h.b.r0.frozen
    have ci1 := h.b.r1.cell
    have cf1 := h.b.r1.frozen
    have ci2 := h.b.r2.cell
    have cf2 := h.b.r2.frozen
    have ci3 := h.b.out.cell
    gi_wp2
    obtain ⟨W9, hW9⟩ : ∃ W9, W9 = ((W'.setCell ⟨w.heap.size, 0, none⟩ (.slice Av r1.length cv)).setCell ⟨w.heap.size + 1, 0, none⟩ (.int .i64 0)).setCell ⟨w.heap.size + 2, 0, none⟩ (.int .i64 0) := ⟨_, rfl⟩
    have hB9 : Below w.heap.size w W9 := by
      rw [hW9]
      exact ((h.b.below.setCell (p := ⟨w.heap.size, 0, none⟩) (Nat.le_refl _) _).setCell (p := ⟨w.heap.size + 1, 0, none⟩) (by show w.heap.size ≤ w.heap.size + 1; omega) _).setCell (p := ⟨w.heap.size + 2, 0, none⟩) (by show w.heap.size ≤ w.heap.size + 2; omega) _
    have hr0 : Boxed W9 w.heap.size 22 (.slice Av r1.length cv) := by rw [hW9]; exact ((h.b.r0.set _).other (by omega) _).other (by omega) _
    have hr1 : Boxed W9 (w.heap.size + 1) 3 (.int .i64 0) := by rw [hW9]; exact ((h.b.r1.other (by omega) _).set _).other (by omega) _
    have hr2 : Boxed W9 (w.heap.size + 2) 24 (.int .i64 0) := by rw [hW9]; exact ((h.b.r2.other (by omega) _).other (by omega) _).set _
    have hR9 : Kd.R k34 34 W9 w.heap.size (fun _ => True) (.slice Av r1.length cv) r1 := by
      rw [hW9]
      exact Kd.R_set (Kd.R_set (Kd.R_set h.b.rows h.b.r0 (by decide) 0 _) (h.b.r1.other (by omega) _) (by decide) 0 _) ((h.b.r2.other (by omega) _).other (by omega) _) (by decide) 0 _
    have hK9 : W9.heap[D]? = some (.deferred (some [])) := by
      rw [hW9]
      exact (Below.heap_setCell _ ⟨w.heap.size + 2, 0, none⟩ _ D (by show D ≠ w.heap.size + 2; omega)).trans ((Below.heap_setCell _ ⟨w.heap.size + 1, 0, none⟩ _ D (by show D ≠ w.heap.size + 1; omega)).trans ((Below.heap_setCell _ ⟨w.heap.size, 0, none⟩ _ D (by show D ≠ w.heap.size; omega)).trans hK))
    rw [← hW9]
    clear hW9
    have d0 := (show Boxed (W9.putObj D (.deferred none)) w.heap.size 22 (.slice Av r1.length cv) from (World.putObj_heap_other (by omega)).trans hr0).cell
    have d1 := (show Boxed (W9.putObj D (.deferred none)) (w.heap.size + 1) 3 (.int .i64 0) from (World.putObj_heap_other (by omega)).trans hr1).cell
    have d2 := (show Boxed (W9.putObj D (.deferred none)) (w.heap.size + 2) 24 (.int .i64 0) from (World.putObj_heap_other (by omega)).trans hr2).cell
    refine ⟨by simp, .inl ⟨_, _, rfl, run_takeDeferred hK9, ?_⟩⟩
    refine ⟨.tuple #[.slice Av r1.length cv, .int .i64 0, .int .i64 0], by simp [results, Tryd.results27, go_sem, d0, d1, d2], _, rfl, ?_, ?_⟩
    · refine Kd.R_mono (Kd.R_grown (Kd.R_bound hR9) (grownBy_putObj' W9 D _) (fun k hk => ?_)) (fun _ _ => trivial)
      obtain ⟨_, _, _, q, _, cells, hcl⟩ := hk
      intro e; cases e
      rw [hK9] at hcl; cases hcl
    · exact hB9.grown (grownBy_putObj' W9 D _) hB9.size (fun k e => by cases e; omega)
  case stop =>
    rintro D c pre W' hD hpre ⟨rfl, a, b, hX⟩ hK
    have hl := hX.law
    rw [HR.out] at hl
    simp only [Prod.mk.injEq] at hl
    obtain ⟨rfl, rfl, rfl⟩ := hl
    gi_wp2
    have d0 := (show Boxed (W'.putObj D (.deferred none)) w.heap.size 22 (.slice none 0 0) from (World.putObj_heap_other (by omega)).trans hX.r0).cell
    have d1 := (show Boxed (W'.putObj D (.deferred none)) (w.heap.size + 1) 3 (.int .i64 r2) from (World.putObj_heap_other (by omega)).trans hX.r1).cell
    have d2 := (show Boxed (W'.putObj D (.deferred none)) (w.heap.size + 2) 24 (.int .i64 r3) from (World.putObj_heap_other (by omega)).trans hX.r2).cell
    refine ⟨by simp, .inl ⟨_, _, rfl, run_takeDeferred hK, ?_⟩⟩
    refine ⟨.tuple #[.slice none 0 0, .int .i64 r2, .int .i64 r3], by simp [results, Tryd.results27, go_sem, d0, d1, d2], _, rfl, Kd.R_nil _ _ _ _ _, ?_⟩
    exact hX.below.grown (grownBy_putObj' W' D _) hX.below.size (fun k e => by cases e; omega)
theorem parse_big (s : ByteArray) (hs : 3000 < s.size) (w : World) :
    Calls Tryd.prog 27 #[.string s] w fun e W' => e = .returned (.tuple #[.slice none 0 0, .int .i64 0, .int .i64 5]) ∧ Below w.heap.size w W' := by
  have hd : decide (3000 < (s.size : Int)) = true := decide_eq_true (by omega)
  go_enter Tryd.func27, Tryd.ntmps27
  go_wp2
  obtain ⟨W9, hW9⟩ : ∃ W9, W9 = ((w.alloc (.cells #[.slice none 0 0] 22)).alloc (.cells #[.int .i64 0] 3)).alloc (.cells #[.int .i64 5] 24) := ⟨_, rfl⟩
  have q2 : Boxed W9 (w.heap.size + 1 + 1) 24 (.int .i64 5) := by
    have := Boxed.new ((w.alloc (.cells #[.slice none 0 0] 22)).alloc (.cells #[.int .i64 0] 3)) 24 (.int .i64 5)
    rw [← hW9] at this
    simpa using this
  have q1 : Boxed W9 (w.heap.size + 1) 3 (.int .i64 0) := by
    have := (Boxed.new (w.alloc (.cells #[.slice none 0 0] 22)) 3 (.int .i64 0)).alloc (.cells #[.int .i64 5] 24)
    rw [← hW9] at this
    simpa using this
  have q0 : Boxed W9 w.heap.size 22 (.slice none 0 0) := by
    have := ((Boxed.new w 22 (.slice none 0 0)).alloc (.cells #[.int .i64 0] 3)).alloc (.cells #[.int .i64 5] 24)
    rw [← hW9] at this
    simpa using this
  have hb : Below w.heap.size w W9 := by rw [hW9]; exact below_alloc (below_alloc (below_alloc (Below.refl _ _) _) _) _
  rw [← hW9]
  clear hW9
  have d0 := q0.cell
  have d1 := q1.cell
  have d2 := q2.cell
  refine bodyPost_ret (v := .tuple #[.slice none 0 0, .int .i64 0, .int .i64 5]) (by simp [results, Tryd.results27, go_sem, d0, d1, d2]) rfl ⟨rfl, hb⟩
theorem text_Parse.calls (a0 : ByteArray) (r1 : List S34) (r2 r3 : Int) (w : World) (h : text_Parse.f a0 = some (r1, r2, r3)) (hT : KTab w) :
    Calls Tryd.prog 27 #[.string a0] w fun e w' => ∃ v0_ : Value, e = .returned (.tuple #[v0_, .int .i64 r2, .int .i64 r3]) ∧ Kd.R k34 34 w' w.heap.size (fun _ => True) v0_ r1 ∧ Below w.heap.size w w' := by
  unfold text_Parse.f at h
  have h := Option.some.inj h
  by_cases hs : a0.size > 3000
  · rw [if_pos hs] at h
    simp only [Prod.mk.injEq] at h
    obtain ⟨rfl, rfl, rfl⟩ := h
    refine (parse_big a0 hs w).mono ?_
    rintro e w' ⟨rfl, hb⟩
    exact ⟨_, rfl, Kd.R_nil _ _ _ _ _, hb⟩
  · rw [if_neg hs] at h
    exact callsIn_wide.1 (parse_in a0 (by omega) w hT r1 r2 r3 h)
end Go.Proofs.YthkpocgbinmeiaaDoor.P

/- A law of ours for a range over a function whose iterator turns no block that lay before, and whose consumer tells which blocks are its own. -/
import Derived.Test.YtimbamimabdmcaaRange
namespace Go.Proofs.Ytimbamimabdmcaa.Range
open Go Go.RowKit

/-- What a round keeps: all but the consumer's own blocks. -/
structure KpO (Own : Nat → Prop) (W W' : World) : Prop where
  os : W'.os = W.os
  tape : W'.tape = W.tape
  output : W'.output = W.output
  size : W.heap.size ≤ W'.heap.size
  block : ∀ k, k < W.heap.size → ¬ Own k → W'.heap[k]? = W.heap[k]?
theorem KpO.refl (Own : Nat → Prop) (W : World) : KpO Own W W := ⟨rfl, rfl, rfl, Nat.le_refl _, fun _ _ _ => rfl⟩
theorem KpO.trans {Own Own' : Nat → Prop} {A B C : World} (h : KpO Own A B) (k : KpO Own' B C) (hO : ∀ r, Own' r → Own r ∨ A.heap.size ≤ r) : KpO Own A C :=
  ⟨k.os.trans h.os, k.tape.trans h.tape, k.output.trans h.output, Nat.le_trans h.size k.size, fun r hr hn => (k.block r (Nat.lt_of_lt_of_le hr h.size) (fun ho => by rcases hO r ho with h1 | h1; exact hn h1; omega)).trans (h.block r hr hn)⟩
theorem KpO.grown {Own : Nat → Prop} {A B : World} {row : Option Nat} (hg : A.grownBy B row) (hr : ∀ r, row = some r → r < A.heap.size → Own r) : KpO Own A B :=
  ⟨hg.os, hg.tape, hg.output, hg.size, fun k hk hn => hg.block k hk (fun e => hn (hr k e.symm hk))⟩
theorem KpO.below {Own : Nat → Prop} {A B : World} {n : Nat} (h : KpO Own A B) (hO : ∀ r, Own r → n ≤ r) (hn : n ≤ A.heap.size) : Below n A B :=
  ⟨h.os, h.tape, h.output, h.size, fun k hk => h.block k (by omega) (fun ho => by have := hO k ho; omega)⟩

/-- What an iterator and the law may do between two rounds: lay blocks, turn objects of their own that hold no cells. -/
def AbG {α : Type} (n : Nat) (J : List α → World → Prop) : Prop :=
  ∀ s A B row, J s A → A.grownBy B row → (∀ r, row = some r → n ≤ r ∧ ∃ o : Obj, A.heap[r]? = some o ∧ o.isCells = false) → J s B
/-- The consumer's own blocks lie, hold cells, and are no more behind an iterator's step. -/
structure OwnG {α : Type} (n : Nat) (J : List α → World → Prop) (Own : List α → World → Nat → Prop) : Prop where
  cells : ∀ s A r, J s A → Own s A r → ∃ o : Obj, A.heap[r]? = some o ∧ o.isCells = true
  step : ∀ s A B row, J s A → A.grownBy B row → (∀ r, row = some r → n ≤ r ∧ ∃ o : Obj, A.heap[r]? = some o ∧ o.isCells = false) → ∀ r, Own s B r → Own s A r
/-- What becomes of the consumer's own blocks in a round. -/
def OwnNew {α : Type} (Own : List α → World → Nat → Prop) (s s' : List α) (A B : World) : Prop := ∀ r, Own s' B r → Own s A r ∨ A.heap.size ≤ r

/-- The iterator's contract: it yields L, in order, till a round says no. -/
def SeqO {α : Type} (P : Program) (gf : Nat) (lb : Array Value) (Rep : α → Value → World → Prop) (X : Nat → Prop) (L : List α) (w : World) : Prop :=
  ∀ (l : Nat) (J Jx : List α → World → Prop) (Own : List α → World → Nat → Prop) (W : World), Below w.heap.size w W → AbG W.heap.size J → AbG W.heap.size Jx → OwnG W.heap.size J Own →
    (∀ pre x v W1, pre ++ [x] <+: L → Rep x v W1 → (∀ r, v.ownBlock = some r → ¬ Own pre W1 r) → J pre W1 → YieldAt Fence.wide 0 P l #[v] W1 fun e W' =>
      (e = .returned (.bool true) ∧ J (pre ++ [x]) W' ∧ KpO (Own pre W1) W1 W' ∧ OwnNew Own pre (pre ++ [x]) W1 W') ∨ (e = .returned (.bool false) ∧ Jx (pre ++ [x]) W' ∧ KeepsFrom W.heap.size W1 W')) →
    J [] W → (∀ r, X r → ¬ Own [] W r) →
    CallsIn Fence.wide 0 P gf (#[.func (.yield l) #[] #[]] ++ lb) W fun e W' => (∃ v, e = .returned v) ∧ (J L W' ∨ ∃ pre, pre <+: L ∧ Jx pre W')

/-- How the body of a round may be left. -/
def bodyO {α : Type} (B : Nat) (I : List α → World → Prop) (Own : List α → World → Nat → Prop) (Ix : Code → List α → World → Prop) (pre : List α) (x : α) (W : World) : Exit → Act → World → Prop
  | .normal, _, W' => KeepsFrom B W W' ∧ I (pre ++ [x]) W' ∧ KpO (Own pre W) W W' ∧ OwnNew Own pre (pre ++ [x]) W W'
  | .ret, _, W' => KeepsFrom B W W' ∧ Ix .ret (pre ++ [x]) W'
  | .exit id, _, W' => KeepsFrom B W W' ∧ Ix (.exit id) (pre ++ [x]) W'
  | .goto t, _, W' => KeepsFrom B W W' ∧ Ix (.goto t) (pre ++ [x]) W'
  | .panic _, _, _ => False
  | .outgrown, _, _ => False

theorem wpIn_rangeO {P : Program} {α : Type} {g : Operand} {ps : Array Tmp} {assign body : Code} {Q : Exit → Act → World → Prop} {a : Act} {w : World}
    {gf : Nat} {lb : Array Value} (hg : a.eval g = .func (.func gf) #[] lb) (eg : ∀ args w, (callFunc gf args).run P w = .ok (.enter gf args) w)
    {Rep : α → Value → World → Prop} {X : Nat → Prop} {L : List α} (hseq : SeqO P gf lb Rep X L w) (hps : ps.size = 1)
    (hRep : ∀ x v A B row, Rep x v A → A.grownBy B row → (∀ r, row = some r → w.heap.size ≤ r ∧ ∃ o : Obj, A.heap[r]? = some o ∧ o.isCells = false) → Rep x v B)
    (I : List α → World → Prop) (Own : List α → World → Nat → Prop) (Ix : Code → List α → World → Prop) (hI : AbG w.heap.size I) (hO : OwnG w.heap.size I Own) (hIx : ∀ c, AbG w.heap.size (Ix c)) (h0 : I [] w) (hX : ∀ r, X r → ¬ Own [] w r) 
    (hround : ∀ (l : Nat) (pre : List α) (x : α) (v : Value) (W : World), pre ++ [x] <+: L → Rep x v W → (∀ r, v.ownBlock = some r → ¬ Own pre W r) → I pre W → w.heap.size + 2 ≤ W.heap.size →
      assign.wpIn (Fence.wide.inRound l) 0 P (Exit.then (fun a' W' => W' = W ∧ ∀ Wb, Rep x v Wb → (∀ r, v.ownBlock = some r → ¬ Own pre Wb r) → I pre Wb → w.heap.size + 2 ≤ Wb.heap.size → body.wpIn (Fence.wide.inRound l) 0 P (bodyO w.heap.size I Own Ix pre x Wb) a' Wb) (fun _ _ _ => False))
        { tmps := (ps.zip #[v]).foldl (fun t (p, v) => t.setIfInBounds p v) a.tmps, defers := [] } W)
    (hdone : ∀ (D : Nat) (W : World), w.heap.size ≤ D → I L W → W.heap[D]? = some (.deferred (some [])) → Q .normal { a with defers := { target := .collected D, args := #[] } :: a.defers } W)
    (hstop : ∀ (D : Nat) (c : Code) (pre : List α) (W : World), w.heap.size ≤ D → pre <+: L → Ix c pre W → W.heap[D]? = some (.deferred (some [])) → c.wpIn Fence.wide 0 P Q { a with defers := { target := .collected D, args := #[] } :: a.defers } W) :
    (Code.rangeFunc g ps assign body).wpIn Fence.wide 0 P Q a w := by
  refine wpIn_rangeFunc ?_
  intro fn hfn
  obtain ⟨rec, hrec⟩ : ∃ rec : LoopState → Option Code → Loop, rec = fun st pe => { state := st, pending := pe, fn, tmps := a.tmps, params := ps, assign, body, defers := w.heap.size } := ⟨_, rfl⟩
  obtain ⟨W1, hW1⟩ : ∃ W1, (w.alloc (.deferred (some []))).alloc (.loop (rec .ready none)) = W1 := ⟨_, rfl⟩
  have hs1 : W1.heap.size = w.heap.size + 2 := by rw [← hW1]; simp
  have hL1 : W1.heap[w.heap.size + 1]? = some (.loop (rec .ready none)) := by
    rw [← hW1]; have := World.alloc_heap_new (w.alloc (.deferred (some []))) (.loop (rec .ready none)); rwa [World.size_alloc] at this
  have hK1 : W1.heap[w.heap.size]? = some (.deferred (some [])) := by
    rw [← hW1]; exact (Below.heap_alloc _ _ _ (by simp)).trans (World.alloc_heap_new w _)
  have hg1 : w.grownBy W1 none := by rw [← hW1]; exact ⟨rfl, rfl, rfl, by simp; omega, fun k hk _ => (Below.heap_alloc _ _ _ (by simp; omega)).trans (Below.heap_alloc _ _ _ hk)⟩
  have hI1 : I [] W1 := hI [] w W1 none h0 hg1 (fun r e => by cases e)
  have hX1 : ∀ r, X r → ¬ Own [] W1 r := fun r hr ho => hX r hr (hO.step [] w W1 none h0 hg1 (fun r e => by cases e) r ho)
  have hb1 : Below w.heap.size w W1 := by
    rw [← hW1]; exact ((Below.refl _ w).alloc (Nat.le_refl _) _).alloc (by simp) _
  have hrow1 : ∀ (A : World) (o : Obj), A.heap[w.heap.size + 1]? = some o → o.isCells = false → ∀ r, some (w.heap.size + 1) = some r → w.heap.size ≤ r ∧ ∃ o : Obj, A.heap[r]? = some o ∧ o.isCells = false := fun A o h1 h2 r e => by cases e; exact ⟨by omega, o, h1, h2⟩
  have hput : ∀ (J : List α → World → Prop), AbG w.heap.size J → ∀ (s : List α) (W : World) (o o' : Obj), J s W → W.heap[w.heap.size + 1]? = some o → o.isCells = false → J s (W.putObj (w.heap.size + 1) o') :=
    fun J hJ s W o o' h hl ho => hJ s W _ (some (w.heap.size + 1)) h (grownBy_putObj' W _ o') (hrow1 W o hl ho)
  refine ⟨w.heap.size + 1, [{ target := .collected w.heap.size, args := #[] }], W1, { target := .fn (.func gf) lb, args := #[.func (.yield (w.heap.size + 1)) #[] #[]] }, W1, gf,
    #[.func (.yield (w.heap.size + 1)) #[] #[]] ++ lb, W1, ?_, ?_, ?_, ?_, fun h => by simp [Fence.wide] at h, ?_⟩
  · rw [← hW1, hrec]; exact run_enterLoop_outer _ _ _ _ _
  · simp only [resolve, hg]
    simp [go_sem]
  · intro f' _; trivial
  · simp [invoke, go_sem, eg]
  · have hwk : ∀ {A B : World} {row : Option Nat}, (∀ r, row = some r → W1.heap.size ≤ r ∧ ∃ o : Obj, A.heap[r]? = some o ∧ o.isCells = false) → ∀ r, row = some r → w.heap.size ≤ r ∧ ∃ o : Obj, A.heap[r]? = some o ∧ o.isCells = false :=
      fun hr r e => by obtain ⟨h1, h2⟩ := hr r e; exact ⟨by omega, h2⟩
    refine (hseq (w.heap.size + 1)
      (fun pre W => I pre W ∧ W.heap[w.heap.size + 1]? = some (.loop (rec .ready none)) ∧ W.heap[w.heap.size]? = some (.deferred (some [])))
      (fun pre W => ∃ c, Ix c pre W ∧ W.heap[w.heap.size + 1]? = some (.loop (rec .done (some c))) ∧ W.heap[w.heap.size]? = some (.deferred (some [])))
      Own W1 hb1 ?_ ?_ ⟨fun s A r hs => hO.cells s A r hs.1, fun s A B row hs hg' hr => hO.step s A B row hs.1 hg' (hwk (B := B) hr)⟩ ?_ ⟨hI1, hL1, hK1⟩ hX1).mono ?_
    · intro s A B row hs hg' hr
      have hk : ∀ (k : Nat) (o : Obj), A.heap[k]? = some o → k ≤ w.heap.size + 1 → B.heap[k]? = A.heap[k]? := fun k o h1 h2 => hg'.block k (Array.getElem?_eq_some_iff.1 h1).1 (fun e => by have := (hr k e.symm).1; omega)
      exact ⟨hI s A B row hs.1 hg' (hwk (B := B) hr), (hk _ _ hs.2.1 (by omega)).trans hs.2.1, (hk _ _ hs.2.2 (by omega)).trans hs.2.2⟩
    · intro s A B row hs hg' hr
      obtain ⟨c, hc, hl, hk'⟩ := hs
      have hk : ∀ (k : Nat) (o : Obj), A.heap[k]? = some o → k ≤ w.heap.size + 1 → B.heap[k]? = A.heap[k]? := fun k o h1 h2 => hg'.block k (Array.getElem?_eq_some_iff.1 h1).1 (fun e => by have := (hr k e.symm).1; omega)
      exact ⟨c, hIx c s A B row hc hg' (hwk (B := B) hr), (hk _ _ hl (by omega)).trans hl, (hk _ _ hk' (by omega)).trans hk'⟩
    · rintro pre x v W hpre hrep hown ⟨hi, hl, hk⟩
      have hlt : w.heap.size + 1 < W.heap.size := (Array.getElem?_eq_some_iff.1 hl).1
      have hy := run_yield (P := P) (args := #[v]) hl (by rw [hrec]; exact hps.symm)
      rw [hrec] at hy
      refine ⟨fn, _, assign, body, hy, roundIn_of_wpIn hfn (wpIn_mono (hround _ pre x v W hpre hrep hown hi (by omega)) ?_)⟩
      intro e0 a0 W0 h0'
      cases e0 with
      | normal => ?_
      | ret => exact h0'.elim
      | exit id => exact h0'.elim
      | goto t => exact h0'.elim
      | panic ch => exact h0'.elim
      | outgrown => exact h0'.elim
      obtain ⟨hW0, hbody⟩ := h0'
      have hW0' := hW0.symm
      subst hW0'
      refine ⟨_, run_beginRound hl (by rw [hrec]), ?_⟩
      obtain ⟨Wb, hWb⟩ : ∃ Wb, Wb = W.putObj (w.heap.size + 1) (.loop { rec .ready none with state := .busy }) := ⟨_, rfl⟩
      have hl2 : Wb.heap[w.heap.size + 1]? = some (.loop { rec .ready none with state := .busy }) := by rw [hWb]; exact World.putObj_heap_same hlt
      have hk2 : Wb.heap[w.heap.size]? = some (.deferred (some [])) := by rw [hWb]; exact (World.putObj_heap_other (by omega)).trans hk
      have hgb : W.grownBy Wb (some (w.heap.size + 1)) := by rw [hWb]; exact grownBy_putObj' W _ _
      have hob : ∀ r, Own pre Wb r → Own pre W r := fun r ho => hO.step pre W Wb _ hi hgb (hrow1 W _ hl rfl) r ho
      have hib : I pre Wb := hI pre W Wb _ hi hgb (hrow1 W _ hl rfl)
      have hsz : Wb.heap.size = W.heap.size := by rw [hWb]; simp
      rw [← hWb]
      refine wpIn_mono (hbody _ (hRep x v _ _ (some (w.heap.size + 1)) hrep hgb (hrow1 W _ hl rfl)) (fun r hr ho => hown r hr (hob r ho)) hib (by rw [hsz]; omega)) ?_
      have fin : ∀ (jump : Option Code) (W3 : World), KeepsFrom w.heap.size Wb W3 →
          (Instr.endRound (w.heap.size + 1) jump).run P W3 = .ok (.bool jump.isNone) (W3.putObj (w.heap.size + 1) (.loop (rec (if jump.isNone then .ready else .done) jump))) ∧
          W3.heap[w.heap.size + 1]? = some (.loop { rec .ready none with state := .busy }) ∧
          (W3.putObj (w.heap.size + 1) (.loop (rec (if jump.isNone then .ready else .done) jump))).heap[w.heap.size + 1]? = some (.loop (rec (if jump.isNone then .ready else .done) jump)) ∧
          (W3.putObj (w.heap.size + 1) (.loop (rec (if jump.isNone then .ready else .done) jump))).heap[w.heap.size]? = some (.deferred (some [])) := fun jump W3 hk3 => by
        have hl3 := hk3.same _ _ (by omega) hl2 rfl
        have := run_endRound (P := P) jump hl3
        rw [hrec] at this ⊢
        exact ⟨this, by rw [hrec] at hl3; exact hl3, World.putObj_heap_same (Array.getElem?_eq_some_iff.1 hl3).1, (World.putObj_heap_other (by omega)).trans (hk3.same _ _ (by omega) hk2 rfl)⟩
      have fin2 : ∀ (o' : Obj) (W3 : World), KeepsFrom w.heap.size Wb W3 → KeepsFrom W1.heap.size W (W3.putObj (w.heap.size + 1) o') := fun o' W3 hk3 =>
        ⟨by have := hk3.size; simp; omega, fun k o hk' hw ho => (World.putObj_heap_other (by omega)).trans (hk3.same k o (by omega) ((hgb.block k (Array.getElem?_eq_some_iff.1 hw).1 (fun e => by cases e; omega)).trans hw) ho)⟩
      rintro e a3 W3 hp
      cases e with
      | normal =>
        obtain ⟨hk3, hi3, hkp3, hnew⟩ := hp
        obtain ⟨hr, hl3, hl4, hk4⟩ := fin none W3 hk3
        have hg3 : W3.grownBy (W3.putObj (w.heap.size + 1) (.loop (rec (if (none : Option Code).isNone then .ready else .done) none))) (some (w.heap.size + 1)) := grownBy_putObj' W3 _ _
        refine ⟨_, _, hr, .inl ⟨rfl, ⟨hput I hI _ _ _ _ hi3 hl3 rfl, hl4, hk4⟩, ?_, ?_⟩⟩
        · refine ⟨hg3.os.trans (hkp3.os.trans hgb.os), hg3.tape.trans (hkp3.tape.trans hgb.tape), hg3.output.trans (hkp3.output.trans hgb.output), Nat.le_trans hgb.size (Nat.le_trans hkp3.size hg3.size), ?_⟩
          intro k hk' hn
          by_cases he : k = w.heap.size + 1
          · subst he
            rw [hl]; exact hl4
          · rw [hg3.block k (by have := hkp3.size; omega) (fun e => he (by cases e; rfl)), hkp3.block k (by omega) (fun ho => hn (hob k ho)), hgb.block k hk' (fun e => he (by cases e; rfl))]
        · intro r ho
          rcases hnew r (hO.step _ W3 _ _ hi3 hg3 (hrow1 W3 _ hl3 rfl) r ho) with h1 | h1
          · exact .inl (hob r h1)
          · exact .inr (by omega)
      | ret =>
        obtain ⟨hk3, hi3⟩ := hp
        obtain ⟨hr, hl3, hl4, hk4⟩ := fin (some .ret) W3 hk3
        exact ⟨_, _, hr, .inr ⟨rfl, ⟨.ret, hput _ (hIx _) _ _ _ _ hi3 hl3 rfl, hl4, hk4⟩, fin2 _ _ hk3⟩⟩
      | exit id =>
        obtain ⟨hk3, hi3⟩ := hp
        obtain ⟨hr, hl3, hl4, hk4⟩ := fin (some (.exit id)) W3 hk3
        exact ⟨_, _, hr, .inr ⟨rfl, ⟨.exit id, hput _ (hIx _) _ _ _ _ hi3 hl3 rfl, hl4, hk4⟩, fin2 _ _ hk3⟩⟩
      | goto t =>
        obtain ⟨hk3, hi3⟩ := hp
        obtain ⟨hr, hl3, hl4, hk4⟩ := fin (some (.goto t)) W3 hk3
        exact ⟨_, _, hr, .inr ⟨rfl, ⟨.goto t, hput _ (hIx _) _ _ _ _ hi3 hl3 rfl, hl4, hk4⟩, fin2 _ _ hk3⟩⟩
      | panic ch => exact hp.elim
      | outgrown => exact hp.elim
    · rintro e W2 ⟨⟨v, rfl⟩, (⟨hi, hl, hk⟩ | ⟨pre, hSp, c, hi, hl, hk⟩)⟩
      · exact ⟨none, _, by have := run_endLoop (P := P) hl (by rw [hrec]; simp); rw [hrec] at this; exact this, hdone _ _ (Nat.le_refl _) (hput I hI _ _ _ _ hi hl rfl) ((World.putObj_heap_other (by omega)).trans hk)⟩
      · exact ⟨some c, _, by have := run_endLoop (P := P) hl (by rw [hrec]; simp); rw [hrec] at this; exact this, hstop _ c pre _ (Nat.le_refl _) hSp (hput _ (hIx c) _ _ _ _ hi hl rfl) ((World.putObj_heap_other (by omega)).trans hk)⟩

end Go.Proofs.Ytimbamimabdmcaa.Range

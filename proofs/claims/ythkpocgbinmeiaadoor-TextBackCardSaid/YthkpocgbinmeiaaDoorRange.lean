/- A law of ours for a range over a function whose iterator yields one known list and may write private blocks of its own (a captured variable). -/
import Derived.RangeFuncNested
import Derived.RangeFuncBound
import Derived.RangeFuncCalls
import Derived.RangeFuncLeaves
import Derived.RangeFuncBox
namespace Go.Proofs.YthkpocgbinmeiaaDoor.Range
open Go Go.RowKit

theorem wide_fn (f : Nat) : Fence.wide.fn f = True := rfl
theorem wide_depth : Fence.wide.depth = none := rfl

/-- What a round keeps: all below n0, and the iterator's private blocks. -/
structure Kp (Pv : Nat → Prop) (n0 : Nat) (W W' : World) : Prop where
  below : Below n0 W W'
  priv : ∀ r, Pv r → W'.heap[r]? = W.heap[r]?
theorem Kp.refl (Pv : Nat → Prop) (n0 : Nat) (W : World) : Kp Pv n0 W W := ⟨Below.refl _ _, fun _ _ => rfl⟩
theorem Kp.trans {Pv : Nat → Prop} {n0 : Nat} {A B C : World} (h : Kp Pv n0 A B) (k : Kp Pv n0 B C) : Kp Pv n0 A C := ⟨h.below.trans k.below, fun r hr => (k.priv r hr).trans (h.priv r hr)⟩
theorem Kp.putObj {Pv : Nat → Prop} {n0 : Nat} (W : World) (l : Nat) (o' : Obj) (hl : n0 ≤ l) (hlt : l < W.heap.size) (hp : ∀ r, Pv r → r ≠ l) : Kp Pv n0 W (W.putObj l o') :=
  ⟨(Below.refl n0 W).grown (grownBy_putObj' W l o') (by omega) (fun k e => by cases e; omega), fun r hr => World.putObj_heap_other (hp r hr)⟩
theorem Kp.grown {Pv : Nat → Prop} {n0 : Nat} {W W' : World} {row : Option Nat} (hg : W.grownBy W' row) (hs : n0 ≤ W.heap.size) (h1 : ∀ k, row = some k → n0 ≤ k) (h2 : ∀ r, Pv r → r < W.heap.size ∧ some r ≠ row) : Kp Pv n0 W W' :=
  ⟨(Below.refl n0 W).grown hg hs h1, fun r hr => hg.block r (h2 r hr).1 (h2 r hr).2⟩

/-- What an iterator may do between two rounds: lay blocks, turn a walk of its own, store into its private variables. -/
def AbI {α : Type} (Pv : Nat → Prop) (n : Nat) (J : List α → World → Prop) : Prop :=
  (∀ s A B row, J s A → A.grownBy B row → (∀ r, row = some r → n ≤ r ∧ ∃ o : Obj, A.heap[r]? = some o ∧ o.isWalk = true) → J s B) ∧
  ∀ s A r v, Pv r → J s A → J s (A.setCell ⟨r, 0, none⟩ v)
/-- What the law and the iterator together may do. -/
def AbO {α : Type} (Pv : Nat → Prop) (n : Nat) (J : List α → World → Prop) : Prop :=
  (∀ s A B row, J s A → A.grownBy B row → (∀ r, row = some r → n ≤ r ∧ ∃ o : Obj, A.heap[r]? = some o ∧ o.isCells = false) → J s B) ∧
  ∀ s A r v, Pv r → J s A → J s (A.setCell ⟨r, 0, none⟩ v)
/-- The iterator's contract: it yields L, in order, till a round says no. -/
def Seq {α : Type} (P : Program) (gf : Nat) (lb : Array Value) (encs : α → Array Value) (Pv : Nat → Prop) (n0 : Nat) (L : List α) (w : World) : Prop :=
  ∀ (l : Nat) (J Jx : List α → World → Prop) (W : World), Below w.heap.size w W → AbI Pv W.heap.size J → AbI Pv W.heap.size Jx →
    (∀ pre x W1, pre ++ [x] <+: L → J pre W1 → YieldAt Fence.wide 0 P l (encs x) W1 fun e W' =>
      (e = .returned (.bool true) ∧ J (pre ++ [x]) W' ∧ Kp Pv n0 W1 W') ∨ (e = .returned (.bool false) ∧ Jx (pre ++ [x]) W')) →
    J [] W →
    CallsIn Fence.wide 0 P gf (#[.func (.yield l) #[] #[]] ++ lb) W fun e W' => (∃ v, e = .returned v) ∧ (J L W' ∨ ∃ pre, pre <+: L ∧ Jx pre W')

/-- How the body of a round may be left. -/
def bodyP {α : Type} (Pv : Nat → Prop) (n0 B : Nat) (I : List α → World → Prop) (Ix : Code → List α → World → Prop) (xs : List α) (W : World) : Exit → Act → World → Prop
  | .normal, _, W' => KeepsFrom B W W' ∧ Kp Pv n0 W W' ∧ I xs W'
  | .ret, _, W' => KeepsFrom B W W' ∧ Ix .ret xs W'
  | .exit id, _, W' => KeepsFrom B W W' ∧ Ix (.exit id) xs W'
  | .goto t, _, W' => KeepsFrom B W W' ∧ Ix (.goto t) xs W'
  | .panic _, _, _ => False
  | .outgrown, _, _ => False

theorem heap_setCell_other (W : World) (r : Nat) (v : Value) (k : Nat) (h : k ≠ r) : (W.setCell ⟨r, 0, none⟩ v).heap[k]? = W.heap[k]? := Below.heap_setCell W ⟨r, 0, none⟩ v k h

theorem wpIn_range {P : Program} {α : Type} {g : Operand} {ps : Array Tmp} {assign body : Code} {Q : Exit → Act → World → Prop} {a : Act} {w : World}
    {gf : Nat} {lb : Array Value} (hg : a.eval g = .func (.func gf) #[] lb) (eg : ∀ args w, (callFunc gf args).run P w = .ok (.enter gf args) w)
    {encs : α → Array Value} {Pv : Nat → Prop} {n0 : Nat} {L : List α} (hPv : ∀ r, Pv r → r < w.heap.size) (hn0 : n0 ≤ w.heap.size) (hseq : Seq P gf lb encs Pv n0 L w) (hps : ∀ x, (encs x).size = ps.size)
    (I : List α → World → Prop) (Ix : Code → List α → World → Prop) (hI : AbO Pv w.heap.size I) (hIx : ∀ c, AbO Pv w.heap.size (Ix c)) (h0 : I [] w) (a1 : α → Act)
    (hassign : ∀ (l : Nat) (x : α) (W : World) (K : Act → World → Prop), K (a1 x) W →
      assign.wpIn (Fence.wide.inRound l) 0 P (Exit.then K (fun _ _ _ => False)) { tmps := (ps.zip (encs x)).foldl (fun t (p, v) => t.setIfInBounds p v) a.tmps, defers := [] } W)
    (hbody : ∀ (l : Nat) (pre : List α) (x : α) (W : World), pre ++ [x] <+: L → I pre W → w.heap.size + 2 ≤ W.heap.size → body.wpIn (Fence.wide.inRound l) 0 P (bodyP Pv n0 w.heap.size I Ix (pre ++ [x]) W) (a1 x) W)
    (hdone : ∀ (D : Nat) (W : World), w.heap.size ≤ D → I L W → W.heap[D]? = some (.deferred (some [])) → Q .normal { a with defers := { target := .collected D, args := #[] } :: a.defers } W)
    (hstop : ∀ (D : Nat) (c : Code) (pre : List α) (W : World), w.heap.size ≤ D → pre <+: L → Ix c pre W → W.heap[D]? = some (.deferred (some [])) → c.wpIn Fence.wide 0 P Q { a with defers := { target := .collected D, args := #[] } :: a.defers } W) :
    (Code.rangeFunc g ps assign body).wpIn Fence.wide 0 P Q a w := by
  refine wpIn_rangeFunc ?_
  intro fn hfn
  obtain ⟨rec, hrec⟩ : ∃ rec : LoopState → Option Code → Loop, rec = fun st pe => { state := st, pending := pe, fn, tmps := a.tmps, params := ps, assign, body, defers := w.heap.size } := ⟨_, rfl⟩
  obtain ⟨W1, hW1⟩ : ∃ W1, (w.alloc (.deferred (some []))).alloc (.loop (rec .ready none)) = W1 := ⟨_, rfl⟩
  have hs1 : W1.heap.size = w.heap.size + 2 := by rw [← hW1]; simp
  have hL1 : W1.heap[w.heap.size + 1]? = some (.loop (rec .ready none)) := by
    rw [← hW1]; have := World.alloc_heap_new (w.alloc (.deferred (some []))) (.loop (rec .ready none)); rwa [World.size_alloc] at this
  have hK1 : W1.heap[w.heap.size]? = some (.deferred (some [])) := by
    rw [← hW1]; exact (Below.heap_alloc _ _ _ (by simp)).trans (World.alloc_heap_new w _)
  have hal : ∀ (s : List α) (W : World) (o : Obj), I s W → I s (W.alloc o) := fun s W o h => hI.1 s W _ none h (World.grownBy_alloc W o none) (fun r e => by cases e)
  have hI1 : I [] W1 := by rw [← hW1]; exact hal _ _ _ (hal _ _ _ h0)
  have hb1 : Below w.heap.size w W1 := by
    rw [← hW1]; exact ((Below.refl _ w).alloc (Nat.le_refl _) _).alloc (by simp) _
  have hput : ∀ (J : List α → World → Prop), AbO Pv w.heap.size J → ∀ (s : List α) (W : World) (o o' : Obj), J s W → W.heap[w.heap.size + 1]? = some o → o.isCells = false → J s (W.putObj (w.heap.size + 1) o') :=
    fun J hJ s W o o' h hl ho => hJ.1 s W _ (some (w.heap.size + 1)) h (grownBy_putObj' W _ o') (fun r e => by cases e; exact ⟨by omega, o, hl, ho⟩)
  refine ⟨w.heap.size + 1, [{ target := .collected w.heap.size, args := #[] }], W1, { target := .fn (.func gf) lb, args := #[.func (.yield (w.heap.size + 1)) #[] #[]] }, W1, gf,
    #[.func (.yield (w.heap.size + 1)) #[] #[]] ++ lb, W1, ?_, ?_, ?_, ?_, fun h => by simp [Fence.wide] at h, ?_⟩
  · rw [← hW1, hrec]; exact run_enterLoop_outer _ _ _ _ _
  · simp only [resolve, hg]
    simp [go_sem]
  · intro f' _; trivial
  · simp [invoke, go_sem, eg]
  · have hne : ∀ r, Pv r → r ≠ w.heap.size + 1 ∧ r ≠ w.heap.size := fun r hr => by have := hPv r hr; omega
    refine (hseq (w.heap.size + 1)
      (fun pre W => I pre W ∧ W.heap[w.heap.size + 1]? = some (.loop (rec .ready none)) ∧ W.heap[w.heap.size]? = some (.deferred (some [])))
      (fun pre W => ∃ c, Ix c pre W ∧ W.heap[w.heap.size + 1]? = some (.loop (rec .done (some c))) ∧ W.heap[w.heap.size]? = some (.deferred (some [])))
      W1 hb1 ⟨?_, ?_⟩ ⟨?_, ?_⟩ ?_ ⟨hI1, hL1, hK1⟩).mono ?_
    · intro s A B row hs hg' hr
      have hk : ∀ (k : Nat) (o : Obj), A.heap[k]? = some o → o.isWalk = false → B.heap[k]? = A.heap[k]? := fun k o h1 h2 => grownBy_keeps hg' (fun r e => (hr r e).2) h1 h2
      exact ⟨hI.1 s A B row hs.1 hg' (fun r e => by obtain ⟨h1, o, h2, h3⟩ := hr r e; exact ⟨by omega, o, h2, Obj.not_cells_of_walk h3⟩), (hk _ _ hs.2.1 rfl).trans hs.2.1, (hk _ _ hs.2.2 rfl).trans hs.2.2⟩
    · intro s A r v hr hs
      exact ⟨hI.2 s A r v hr hs.1, (heap_setCell_other A r v _ (hne r hr).1.symm).trans hs.2.1, (heap_setCell_other A r v _ (hne r hr).2.symm).trans hs.2.2⟩
    · intro s A B row hs hg' hr
      obtain ⟨c, hc, hl, hk'⟩ := hs
      have hk : ∀ (k : Nat) (o : Obj), A.heap[k]? = some o → o.isWalk = false → B.heap[k]? = A.heap[k]? := fun k o h1 h2 => grownBy_keeps hg' (fun r e => (hr r e).2) h1 h2
      exact ⟨c, (hIx c).1 s A B row hc hg' (fun r e => by obtain ⟨h1, o, h2, h3⟩ := hr r e; exact ⟨by omega, o, h2, Obj.not_cells_of_walk h3⟩), (hk _ _ hl rfl).trans hl, (hk _ _ hk' rfl).trans hk'⟩
    · intro s A r v hr hs
      obtain ⟨c, hc, hl, hk'⟩ := hs
      exact ⟨c, (hIx c).2 s A r v hr hc, (heap_setCell_other A r v _ (hne r hr).1.symm).trans hl, (heap_setCell_other A r v _ (hne r hr).2.symm).trans hk'⟩
    · rintro pre x W hpre ⟨hi, hl, hk⟩
      have hlt : w.heap.size + 1 < W.heap.size := (Array.getElem?_eq_some_iff.1 hl).1
      have hy := run_yield (P := P) (args := encs x) hl (by rw [hrec]; exact hps x)
      rw [hrec] at hy
      refine ⟨fn, _, assign, body, hy, roundIn_of_wpIn hfn (hassign _ x W _ ⟨_, run_beginRound hl (by rw [hrec]), ?_⟩)⟩
      have hl2 : (W.putObj (w.heap.size + 1) (.loop { rec .ready none with state := .busy })).heap[w.heap.size + 1]? = some (.loop { rec .ready none with state := .busy }) := World.putObj_heap_same hlt
      have hk2 : (W.putObj (w.heap.size + 1) (.loop { rec .ready none with state := .busy })).heap[w.heap.size]? = some (.deferred (some [])) := (World.putObj_heap_other (by omega)).trans hk
      have hw2 : Kp Pv n0 W (W.putObj (w.heap.size + 1) (.loop { rec .ready none with state := .busy })) := Kp.putObj _ _ _ (by omega) hlt (fun r hr => (hne r hr).1)
      have hsz : (W.putObj (w.heap.size + 1) (.loop { rec .ready none with state := .busy })).heap.size = W.heap.size := by simp
      refine wpIn_mono (hbody _ pre x _ hpre (hput I hI _ _ _ _ hi hl rfl) (by rw [hsz]; omega)) ?_
      have fin : ∀ (jump : Option Code) (W3 : World), KeepsFrom w.heap.size (W.putObj (w.heap.size + 1) (.loop { rec .ready none with state := .busy })) W3 →
          (Instr.endRound (w.heap.size + 1) jump).run P W3 = .ok (.bool jump.isNone) (W3.putObj (w.heap.size + 1) (.loop (rec (if jump.isNone then .ready else .done) jump))) ∧
          W3.heap[w.heap.size + 1]? = some (.loop { rec .ready none with state := .busy }) ∧
          (W3.putObj (w.heap.size + 1) (.loop (rec (if jump.isNone then .ready else .done) jump))).heap[w.heap.size + 1]? = some (.loop (rec (if jump.isNone then .ready else .done) jump)) ∧
          (W3.putObj (w.heap.size + 1) (.loop (rec (if jump.isNone then .ready else .done) jump))).heap[w.heap.size]? = some (.deferred (some [])) := fun jump W3 hk3 => by
        have hl3 := hk3.same _ _ (by omega) hl2 rfl
        have := run_endRound (P := P) jump hl3
        rw [hrec] at this ⊢
        exact ⟨this, by rw [hrec] at hl3; exact hl3, World.putObj_heap_same (Array.getElem?_eq_some_iff.1 hl3).1, (World.putObj_heap_other (by omega)).trans (hk3.same _ _ (by omega) hk2 rfl)⟩
      rintro e a3 W3 hp
      cases e with
      | normal =>
        obtain ⟨hk3, hkp3, hi3⟩ := hp
        obtain ⟨hr, hl3, hl4, hk4⟩ := fin none W3 hk3
        exact ⟨_, _, hr, .inl ⟨rfl, ⟨hput I hI _ _ _ _ hi3 hl3 rfl, hl4, hk4⟩, (hw2.trans hkp3).trans (Kp.putObj _ _ _ (by omega) (Array.getElem?_eq_some_iff.1 hl3).1 (fun r hr => (hne r hr).1))⟩⟩
      | ret =>
        obtain ⟨hk3, hi3⟩ := hp
        obtain ⟨hr, hl3, hl4, hk4⟩ := fin (some .ret) W3 hk3
        exact ⟨_, _, hr, .inr ⟨rfl, .ret, hput _ (hIx _) _ _ _ _ hi3 hl3 rfl, hl4, hk4⟩⟩
      | exit id =>
        obtain ⟨hk3, hi3⟩ := hp
        obtain ⟨hr, hl3, hl4, hk4⟩ := fin (some (.exit id)) W3 hk3
        exact ⟨_, _, hr, .inr ⟨rfl, .exit id, hput _ (hIx _) _ _ _ _ hi3 hl3 rfl, hl4, hk4⟩⟩
      | goto t =>
        obtain ⟨hk3, hi3⟩ := hp
        obtain ⟨hr, hl3, hl4, hk4⟩ := fin (some (.goto t)) W3 hk3
        exact ⟨_, _, hr, .inr ⟨rfl, .goto t, hput _ (hIx _) _ _ _ _ hi3 hl3 rfl, hl4, hk4⟩⟩
      | panic ch => exact hp.elim
      | outgrown => exact hp.elim
    · rintro e W2 ⟨⟨v, rfl⟩, (⟨hi, hl, hk⟩ | ⟨pre, hSp, c, hi, hl, hk⟩)⟩
      · exact ⟨none, _, by have := run_endLoop (P := P) hl (by rw [hrec]; simp); rw [hrec] at this; exact this, hdone _ _ (Nat.le_refl _) (hput I hI _ _ _ _ hi hl rfl) ((World.putObj_heap_other (by omega)).trans hk)⟩
      · exact ⟨some c, _, by have := run_endLoop (P := P) hl (by rw [hrec]; simp); rw [hrec] at this; exact this, hstop _ c pre _ (Nat.le_refl _) hSp (hput _ (hIx c) _ _ _ _ hi hl rfl) ((World.putObj_heap_other (by omega)).trans hk)⟩

end Go.Proofs.YthkpocgbinmeiaaDoor.Range

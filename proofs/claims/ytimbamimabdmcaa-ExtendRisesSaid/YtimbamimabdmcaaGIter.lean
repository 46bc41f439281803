/- extend.rows$1, the iterator: it yields the rows that begin with a row and keep the order, by recursion. -/
import Derived.Test.YtimbamimabdmcaaUFree
import Derived.Test.YtimbamimabdmcaaP6
import Derived.Test.YtimbamimabdmcaaGClone
import Derived.Test.YtimbamimabdmcaaGRows
import Derived.Test.YtimbamimabdmcaaRangeO
import Derived.Test.YtimbamimabdmcaaUNum
import Derived.Shelf.Abstract
import Derived.Shelf.RegionOpen
import Derived.OwnWalkIn
import Derived.TacticsInMore
import Derived.LoopNIn
import Derived.LoopIn
import Derived.Lib.Hide
import Derived.Outline
import Derived.Maps.AppendAt
import Derived.Deep.RegionHeld3
import Derived.Deep.RegionLawGrows
import Derived.ArgAppend
namespace Go.Proofs.Ytimbamimabdmcaa.P
set_option linter.unusedVariables false
set_option linter.unusedSimpArgs false
open Go Go.RowKit Go.Shelf Go.Proofs.Ytimbamimabdmcaa.Range Go.Proofs.Ytimbamimabdmcaa.U Go.Proofs.YtimbamimabdmcaaW.PrintWords Go.Proofs.YtimbamimabdmcaaW.PrintLast Go.Proofs.YtimbamimabdmcaaW.PrintMore
attribute [local go_sem] Oper.semAt_some wide_fn wide_depth

def RepI (b0 : Nat) (x : List Int) (v : Value) (W : World) : Prop := Kd.R (Kd.int .i64) 3 W b0 (fun _ => True) v x
theorem RepI.grown {b0 n : Nat} {x : List Int} {v : Value} {A B : World} {row : Option Nat} (h : RepI b0 x v A) (hg : A.grownBy B row) (hr : ∀ r, row = some r → n ≤ r ∧ ∃ o : Obj, A.heap[r]? = some o ∧ o.isCells = false) : RepI b0 x v B :=
  Kd.R_mono (Kd.R_grown (Kd.R_bound h) hg (fun k hk e => by
    obtain ⟨_, o, h1, h2⟩ := hr k e.symm
    obtain ⟨_, _, _, q, _, cells, hc⟩ := hk
    rw [hc] at h1
    cases h1
    simp [Obj.isCells] at h2)) (fun _ _ => trivial)
theorem cell_same {W W' : World} {a : Addr} (h : W'.heap[a.block]? = W.heap[a.block]?) : W'.cell? a = W.cell? a := by unfold World.cell?; rw [h]
theorem C_same {k : IntKind} {W W' : World} {A : Option Addr} {n : Nat} {xs : List Int} (h : (Kd.int k).C W A n xs) (hs : ∀ ad, A = some ad → W'.heap[ad.block]? = W.heap[ad.block]?) : (Kd.int k).C W' A n xs := by
  obtain ⟨h1, h2, h3⟩ := h
  refine ⟨h1, h2, fun hp => ?_⟩
  obtain ⟨ad, rfl, h4⟩ := h3 hp
  refine ⟨ad, rfl, fun j p hj => ?_⟩
  obtain ⟨c, hc, hk, hcell⟩ := h4 j p hj
  exact ⟨c, hc, hk, fun i u hi => (cell_same (a := ad.add (j * (Kd.int k).sz + i)) (by rw [add_block]; exact hs ad rfl)).trans (hcell i u hi)⟩
/-- The address that a row leans on. -/
def eff (n : Nat) (A : Option Addr) : Option Addr := if n = 0 then none else A
theorem C_same_eff {k : IntKind} {W W' : World} {A : Option Addr} {xs : List Int} (h : (Kd.int k).C W A xs.length xs) (hs : ∀ ad, eff xs.length A = some ad → W'.heap[ad.block]? = W.heap[ad.block]?) : (Kd.int k).C W' A xs.length xs := by
  rcases Nat.eq_zero_or_pos xs.length with h0 | h0
  · exact ⟨h.1, h.2.1, fun hp => by omega⟩
  · exact C_same h (fun ad e => hs ad (by unfold eff; rw [if_neg (by omega)]; exact e))
theorem C_eff_lt {k : IntKind} {W : World} {A : Option Addr} {xs : List Int} (h : (Kd.int k).C W A xs.length xs) : ∀ ad, eff xs.length A = some ad → ad.block < W.heap.size := by
  intro ad e
  unfold eff at e
  split at e
  · cases e
  · rename_i h0
    obtain ⟨ad', e', h4⟩ := h.2.2 (by omega)
    rw [e] at e'; cases e'
    obtain ⟨x, hx⟩ : ∃ x, xs[0]? = some x := ⟨xs[0]'(by omega), List.getElem?_eq_getElem _⟩
    obtain ⟨c, hc, hk, hcell⟩ := h4 0 x hx
    have hk' : c = [.int k x] := hk
    subst hk'
    have := World.block_lt_of_cell? _ _ (hcell 0 (.int k x) rfl)
    rwa [add_block] at this
/-- The closure's three variables, and the two rows. -/
structure RowsAt (W : World) (bL bR bA : Nat) (A R : Option Addr) (cA cR : Nat) (m : Int) (l0 row : List Int) : Prop where
  hL : Boxed W bL 35 (.int .u32 m)
  hR : Boxed W bR 23 (.slice R row.length cR)
  hA : Boxed W bA 22 (.slice A l0.length cA)
  rA : (Kd.int .u32).C W A l0.length l0
  rR : (Kd.int .i64).C W R row.length row
  lA : l0.length ≤ cA
  lR : row.length ≤ cR
  bA : ∀ ad, eff l0.length A = some ad → ad.block < W.heap.size
  bR : ∀ ad, R = some ad → ad.block < W.heap.size
/-- The blocks that it leans on. -/
def XR (bL bR bA : Nat) (A R : Option Addr) (r : Nat) : Prop := r = bL ∨ r = bR ∨ r = bA ∨ (∃ ad, A = some ad ∧ ad.block = r) ∨ (∃ ad, R = some ad ∧ ad.block = r)
theorem RowsAt.lt {W : World} {bL bR bA : Nat} {A R : Option Addr} {cA cR : Nat} {m : Int} {l0 row : List Int} (h : RowsAt W bL bR bA A R cA cR m l0 row) : ∀ r, XR bL bR bA (eff l0.length A) R r → r < W.heap.size := by
  rintro r (rfl | rfl | rfl | ⟨ad, h1, rfl⟩ | ⟨ad, h1, rfl⟩)
  · exact h.hL.lt
  · exact h.hR.lt
  · exact h.hA.lt
  · exact h.bA ad h1
  · exact h.bR ad h1
theorem RowsAt.same {W W' : World} {bL bR bA : Nat} {A R : Option Addr} {cA cR : Nat} {m : Int} {l0 row : List Int} (h : RowsAt W bL bR bA A R cA cR m l0 row) (hs : ∀ r, XR bL bR bA (eff l0.length A) R r → W'.heap[r]? = W.heap[r]?) (hz : W.heap.size ≤ W'.heap.size) : RowsAt W' bL bR bA A R cA cR m l0 row :=
  ⟨(hs bL (.inl rfl)).trans h.hL, (hs bR (.inr (.inl rfl))).trans h.hR, (hs bA (.inr (.inr (.inl rfl)))).trans h.hA,
    C_same_eff h.rA (fun ad e => hs _ (.inr (.inr (.inr (.inl ⟨ad, e, rfl⟩))))), C_same h.rR (fun ad e => hs _ (.inr (.inr (.inr (.inr ⟨ad, e, rfl⟩))))), h.lA, h.lR,
    fun ad e => Nat.lt_of_lt_of_le (h.bA ad e) hz, fun ad e => Nat.lt_of_lt_of_le (h.bR ad e) hz⟩
theorem RowsAt.below {W W' : World} {bL bR bA : Nat} {A R : Option Addr} {cA cR : Nat} {m : Int} {l0 row : List Int} (h : RowsAt W bL bR bA A R cA cR m l0 row) (hb : Below W.heap.size W W') : RowsAt W' bL bR bA A R cA cR m l0 row :=
  h.same (fun r hr => hb.block r (h.lt r hr)) hb.size
theorem below_grown {A B : World} (h : Below A.heap.size A B) : A.grownBy B none := ⟨h.os, h.tape, h.output, h.size, fun k hk _ => h.block k hk⟩
theorem left_done {l0 row : List Int} {m : Int} (hn : l0.length ≤ 6) (hd : row.Nodup) (hi : InN l0.length row) (hm : U.Left l0.length m row) (hl : row.length = l0.length) : m = 0 :=
  (left_zero hn hm).2 fun i hi2 => whole_mem l0.length row (rows_all _ _ row hl hd hi) (i : Int) (by omega) (by omega)
theorem left_more {l0 row : List Int} {m : Int} (hn : l0.length ≤ 6) (hm : U.Left l0.length m row) (hl : row.length < l0.length) : m ≠ 0 := by
  intro h0
  have hall := (left_zero hn hm).1 h0
  have : ((List.range l0.length).map (fun (k : Nat) => (k : Int))).length ≤ row.length := List.Nodup.length_le_of_subset (by
    refine (List.pairwise_map).2 (List.Pairwise.imp (fun {a b} hab h => hab (by omega)) (List.nodup_range (n := l0.length)))) (by
    intro x hx
    obtain ⟨k, hk, rfl⟩ := List.mem_map.1 hx
    exact hall k (List.mem_range.1 hk))
  simp at this
  omega

set_option maxRecDepth 100000 in
set_option maxHeartbeats 4000000 in
theorem rows_zero (l0 : List Int) (b0 : Nat) (row : List Int) (hrow : row.length ≤ 6) (w : World) (bL bR bA : Nat) (A R : Option Addr) (cA cR : Nat)
    (hat : RowsAt w bL bR bA A R cA cR 0 l0 row) (hb0 : b0 ≤ w.heap.size) :
    SeqO Try.prog 56 #[.pointer (some ⟨bL, 0, none⟩), .pointer (some ⟨bR, 0, none⟩), .pointer (some ⟨bA, 0, none⟩)] (RepI b0) (XR bL bR bA (eff l0.length A) R) [row] w := by
  intro l J Jx Own W hW hJ hJx hO hY h0 hX
  have hatW := hat.below hW
  obtain ⟨W1, hW1⟩ : ∃ W1, W1 = W.alloc (.cells #[.func (.yield l) #[] #[]] 74) := ⟨_, rfl⟩
  have hB1 : Below W.heap.size W W1 := by rw [hW1]; exact (Below.refl _ W).alloc (Nat.le_refl _) _
  have hat1 := hatW.below hB1
  have hY1 : Boxed W1 W.heap.size 74 (.func (.yield l) #[] #[]) := by rw [hW1]; exact Boxed.new W 74 _
  have cL := hat1.hL.cell
  have cR1 := hat1.hR.cell
  have cY := hY1.cell
  rw [hW1] at cL cR1 cY
  have hclone := Lib.hid (slices_Clone_int_int.calls R cR row row W1.drew (C_same hat1.rR (fun _ _ => rfl)) hat1.lR (by unfold slices_Clone_int_int.f; rw [if_pos (by omega)]))
  refine callsIn_of_wp Try.func56 rfl trivial ?_ rfl
  simp only [Try.ntmps56, List.size_toArray, List.length_cons, List.length_nil, Nat.reduceAdd, Nat.reduceSub, Array.replicate_succ, Array.replicate_zero, List.push_toArray, List.append_toArray, List.nil_append, List.cons_append]
  gi_wp2
  rw [← hW1] at cL cR1 cY ⊢
  have HW1 := Lib.hid hW1
  clear hW1
  have cR2 : W1.drew.cell? ⟨bR, 0, none⟩ = some (.slice R row.length cR) := cR1
  have cY2 : W1.drew.cell? ⟨W.heap.size, 0, none⟩ = some (.func (.yield l) #[] #[]) := cY
  clear cL
  have hprep := Lib.hid (show ∀ (v0 : Value) (w' : World), Kd.R (Kd.int .i64) 3 w' W1.drew.heap.size (fun _ => True) v0 row → Below W1.drew.heap.size W1.drew w' →
      w'.cell? ⟨W.heap.size, 0, none⟩ = some (.func (.yield l) #[] #[]) ∧ YieldAt Fence.wide 0 Try.prog l #[v0] w' fun e W' => ∃ b : Bool, e = .returned (.bool b) ∧ ((b = true ∧ J [row] W') ∨ (b = false ∧ Jx [row] W')) from by
    intro v0 w' hv hb
    have hbw : Below W.heap.size W w' := (hB1.trans (below_drew (Below.refl _ _))).trans (hb.mono (by show W.heap.size ≤ W1.heap.size; exact hB1.size))
    have hg := below_grown hbw
    refine ⟨(hb.cell (p := ⟨W.heap.size, 0, none⟩) hY1.lt).trans cY2, ?_⟩
    refine YieldAt.mono (hY [] row v0 w' (List.prefix_refl _) (Kd.R_lower hv (Nat.le_trans hb0 (Nat.le_trans hW.size hB1.size))) ?_ (hJ [] W w' none h0 hg (fun r e => by cases e))) ?_
    · intro r hr ho
      have h1 := Kd.R_base hv r hr
      obtain ⟨o, h2, _⟩ := hO.cells [] W r h0 (hO.step [] W w' none h0 hg (fun r e => by cases e) r ho)
      have h3 := (Array.getElem?_eq_some_iff.1 h2).1
      have h4 : W.heap.size ≤ W1.drew.heap.size := hB1.size
      omega
    · rintro e W' (⟨rfl, h1, _, _⟩ | ⟨rfl, h1, _⟩)
      · exact ⟨true, rfl, .inl ⟨rfl, h1⟩⟩
      · exact ⟨false, rfl, .inr ⟨rfl, h1⟩⟩)
  gi_region_with (first
    | (gi_at_call 29; refine (callsIn_wide.2 hclone.out).mono ?_; clear hclone; rintro e w' ⟨v0, rfl, hv0, hB2⟩; obtain ⟨cY2, fn, tmps, assign, body, hy, hRd⟩ := hprep.out v0 w' hv0 hB2)
    | (refine hRd.mono ?_; clear hRd; rintro e W3 ⟨b, rfl, hJ3⟩; have HJ3 := Lib.hid hJ3; clear hJ3))
  all_goals
    gi_wp2
    refine bodyPost_ret (results_none rfl _ _ _) rfl ?_
    refine ⟨⟨_, rfl⟩, ?_⟩
    rcases HJ3.out with ⟨_, h⟩ | ⟨_, h⟩
    · exact .inl h
    · exact .inr ⟨[row], List.prefix_refl _, h⟩

theorem drawn_below {A B : World} (h : Drawn0 A B) : Below A.heap.size A B := by
  obtain ⟨⟨n, rfl⟩⟩ := h
  exact pw_below_drewN (Below.refl _ _) n
theorem infoInt : (Try.prog.info? 3).map (fun i => (i.zero, i.size, i.bytes)) = some (some (.int .i64 0), 1, 8) := by kernel_rfl
theorem grown_below {A B : World} (h : A.grownBy B none) : Below A.heap.size A B := ⟨h.os, h.tape, h.output, h.size, fun k hk => h.block k hk (fun e => by cases e)⟩
abbrev S7 (w2 : World) (bL bR bA : Nat) (vL vR vA : Value) (w' : World) : Prop := w'.cell? ⟨bL, 0, none⟩ = some vL ∧ w'.cell? ⟨bR, 0, none⟩ = some vR ∧ w'.cell? ⟨bA, 0, none⟩ = some vA ∧ Below w2.heap.size w2 w'
theorem S7.below {w2 A B : World} {bL bR bA : Nat} {vL vR vA : Value} (h : S7 w2 bL bR bA vL vR vA A) (hb : Below A.heap.size A B) (h1 : bL < w2.heap.size) (h2 : bR < w2.heap.size) (h3 : bA < w2.heap.size) : S7 w2 bL bR bA vL vR vA B := by
  have hs := h.2.2.2.size
  exact ⟨(hb.cell (p := ⟨bL, 0, none⟩) (Nat.lt_of_lt_of_le h1 hs)).trans h.1, (hb.cell (p := ⟨bR, 0, none⟩) (Nat.lt_of_lt_of_le h2 hs)).trans h.2.1, (hb.cell (p := ⟨bA, 0, none⟩) (Nat.lt_of_lt_of_le h3 hs)).trans h.2.2.1, h.2.2.2.trans (hb.mono hs)⟩
theorem S7.app {w2 w3 : World} {o : Obj} {bL bR bA : Nat} {vL vR vA : Value} (c1 : w2.cell? ⟨bL, 0, none⟩ = some vL) (c2 : w2.cell? ⟨bR, 0, none⟩ = some vR) (c3 : w2.cell? ⟨bA, 0, none⟩ = some vA) (hg : (w2.alloc o).drew.grownBy w3 none) (h1 : bL < w2.heap.size) (h2 : bR < w2.heap.size) (h3 : bA < w2.heap.size) : S7 w2 bL bR bA vL vR vA w3 := by
  have hb : Below w2.heap.size w2 (w2.alloc o).drew := below_drew (below_alloc (Below.refl _ _) _)
  exact S7.below (A := w2) ⟨c1, c2, c3, Below.refl _ _⟩ (hb.trans ((grown_below hg).mono hb.size)) h1 h2 h3
theorem S7.app3 {w2 w3 : World} {o o1 o2 o3 : Obj} {bL bR bA : Nat} {vL vR vA : Value} (c1 : w2.cell? ⟨bL, 0, none⟩ = some vL) (c2 : w2.cell? ⟨bR, 0, none⟩ = some vR) (c3 : w2.cell? ⟨bA, 0, none⟩ = some vA) (hg : (w2.alloc o).drew.grownBy w3 none) (h1 : bL < w2.heap.size) (h2 : bR < w2.heap.size) (h3 : bA < w2.heap.size) : S7 w2 bL bR bA vL vR vA (((w3.alloc o1).alloc o2).alloc o3) :=
  S7.below (S7.app c1 c2 c3 hg h1 h2 h3) (below_alloc (below_alloc (below_alloc (Below.refl _ _) _) _) _) h1 h2 h3
theorem C_cells {k : IntKind} {W : World} {A : Option Addr} {n : Nat} {xs : List Int} (h : (Kd.int k).C W A n xs) : ∀ b, A = some b → ∀ (j : Nat) (u : Value), (nums k xs)[j]? = some u → W.cell? (b.add j) = some u := by
  rintro b rfl j u hj
  obtain ⟨h1, h2, h3⟩ := h
  unfold nums at hj
  rw [List.getElem?_map] at hj
  cases hx : xs[j]? with
  | none => rw [hx] at hj; cases hj
  | some x =>
    rw [hx] at hj
    have hlt := (List.getElem?_eq_some_iff.1 hx).1
    obtain ⟨ad, e, h4⟩ := h3 (by omega)
    cases e
    obtain ⟨c, hc, hk, hcell⟩ := h4 j x hx
    have hk' : c = [.int k x] := hk
    subst hk'
    have := hcell 0 (.int k x) rfl
    rw [← Option.some.inj hj]
    simpa [Kd.int, Kd.scalar] using this
/-- What the iterator is sure of from a world on: all that is not the consumer's stays, and stays not the consumer's. -/
def Fr (Own : List (List Int) → World → Nat → Prop) (s : List (List Int)) (A : World) (t : List (List Int)) (B : World) : Prop :=
  A.heap.size ≤ B.heap.size ∧ ∀ r, r < A.heap.size → ¬ Own s A r → B.heap[r]? = A.heap[r]? ∧ ¬ Own t B r
theorem Fr.refl (Own : List (List Int) → World → Nat → Prop) (s : List (List Int)) (A : World) : Fr Own s A s A := ⟨Nat.le_refl _, fun _ _ h => ⟨rfl, h⟩⟩
theorem Fr.trans {Own : List (List Int) → World → Nat → Prop} {s t u : List (List Int)} {A B C : World} (h : Fr Own s A t B) (k : Fr Own t B u C) : Fr Own s A u C :=
  ⟨Nat.le_trans h.1 k.1, fun r hr hn => by
    obtain ⟨h1, h2⟩ := h.2 r hr hn
    obtain ⟨k1, k2⟩ := k.2 r (Nat.lt_of_lt_of_le hr h.1) h2
    exact ⟨k1.trans h1, k2⟩⟩
theorem Fr.grown {Own : List (List Int) → World → Nat → Prop} {J : List (List Int) → World → Prop} {n : Nat} {s : List (List Int)} {A B : World} (hO : OwnG n J Own) (hJ : J s A) (hg : A.grownBy B none) : Fr Own s A s B :=
  ⟨hg.size, fun r hr hn => ⟨hg.block r hr (fun e => by cases e), fun ho => hn (hO.step s A B none hJ hg (fun r e => by cases e) r ho)⟩⟩
theorem Fr.round {Own : List (List Int) → World → Nat → Prop} {s t : List (List Int)} {A B : World} (h : KpO (Own s A) A B) (hn : OwnNew Own s t A B) : Fr Own s A t B :=
  ⟨h.size, fun r hr ho => ⟨h.block r hr ho, fun h2 => by rcases hn r h2 with h3 | h3; exact ho h3; omega⟩⟩
/-- The marks that the loops have left among the deferred calls. -/
def Marks (n : Nat) (W : World) : List Deferred → Prop
  | [] => True
  | d :: ds => (∃ D, n ≤ D ∧ d = { target := .collected D, args := #[] } ∧ W.heap[D]? = some (.deferred (some [])) ∧ ∀ d' ∈ ds, d'.target ≠ .collected D) ∧ Marks n W ds
theorem leaves_marks {m n : Nat} {P : Program} {fn : Func} {tmps : Array Value} {R : Ending → World → Prop} {K : World → Prop} (hres : ∀ W, ∃ v, (results fn tmps).run P W = .ok v W)
    (hK : ∀ W D, K W → n ≤ D → W.heap[D]? = some (.deferred (some [])) → K (W.putObj D (.deferred none))) (hR : ∀ v W, K W → R (.returned v) W) : ∀ (ds : List Deferred) (W : World), Marks n W ds → K W → LeavesInM Fence.wide m P fn tmps R ds .returning W := by
  intro ds
  induction ds with
  | nil =>
    intro W _ hk
    obtain ⟨v, hv⟩ := hres W
    exact ⟨v, hv, hR v W hk⟩
  | cons d ds ih =>
    rintro W ⟨⟨D, hD, rfl, hd, hne⟩, hm⟩ hk
    refine ⟨by simp, .inl ⟨D, _, rfl, run_takeDeferred hd, ih _ ?_ (hK W D hk hD hd)⟩⟩
    clear ih hk hres hR hK
    induction ds with
    | nil => trivial
    | cons d2 ds ih2 =>
      obtain ⟨⟨D2, h1, rfl, h2, h3⟩, h4⟩ := hm
      refine ⟨⟨D2, h1, rfl, ?_, h3⟩, ih2 h4 (fun d' hd' => hne d' (List.mem_cons_of_mem _ hd'))⟩
      rw [World.putObj_heap_other (fun e => hne _ List.mem_cons_self (by rw [e]))]
      exact h2
theorem Marks.keep {n : Nat} {W W' : World} : ∀ {ds : List Deferred}, Marks n W ds → (∀ D : Nat, W.heap[D]? = some (Obj.deferred (some [])) → W'.heap[D]? = some (Obj.deferred (some []))) → Marks n W' ds := by
  intro ds
  induction ds with
  | nil => intro _ _; trivial
  | cons d ds ih =>
    rintro ⟨⟨D, h1, rfl, h2, h3⟩, h4⟩ h
    exact ⟨⟨D, h1, rfl, h D h2, h3⟩, ih h4 h⟩
theorem Marks.keep2 {n : Nat} {W W' : World} : ∀ {ds : List Deferred}, Marks n W ds → (∀ D : Nat, W.heap[D]? = some (Obj.deferred (some [])) → n ≤ D → W'.heap[D]? = some (Obj.deferred (some []))) → Marks n W' ds := by
  intro ds
  induction ds with
  | nil => intro _ _; trivial
  | cons d ds ih =>
    rintro ⟨⟨D, h1, rfl, h2, h3⟩, h4⟩ h
    exact ⟨⟨D, h1, rfl, h D h2 h1, h3⟩, ih h4 h⟩
theorem Marks.lt {n : Nat} {W : World} : ∀ {ds : List Deferred}, Marks n W ds → ∀ d ∈ ds, ∀ D, d.target = .collected D → D < W.heap.size := by
  intro ds
  induction ds with
  | nil => intro _ d hd; cases hd
  | cons d ds ih =>
    rintro ⟨⟨D, h1, rfl, h2, h3⟩, h4⟩ d' hd' D' e
    rcases List.mem_cons.1 hd' with rfl | hd'
    · cases e; exact (Array.getElem?_eq_some_iff.1 h2).1
    · exact ih h4 d' hd' D' e
def doneR (l0 row : List Int) (d k : Nat) : List (List Int) := (List.range k).flatMap fun (k : Nat) => if !row.contains (k : Int) && freeS l0 row k then extR l0 d (row ++ [(k : Int)]) else []
theorem done_succ (l0 row : List Int) (d k : Nat) : doneR l0 row d (k + 1) = doneR l0 row d k ++ (if !row.contains (k : Int) && freeS l0 row k then extR l0 d (row ++ [(k : Int)]) else []) := by
  unfold doneR; rw [List.range_succ, List.flatMap_append]; simp
theorem done_pre (l0 row : List Int) (d k : Nat) (h : k ≤ l0.length) : doneR l0 row d k <+: extR l0 (d + 1) row := by
  show doneR l0 row d k <+: doneR l0 row d l0.length
  obtain ⟨j, e⟩ : ∃ j, l0.length = k + j := ⟨l0.length - k, by omega⟩
  rw [e]
  clear e h
  induction j with
  | zero => exact List.prefix_refl _
  | succ j ih => rw [show k + (j + 1) = (k + j) + 1 by omega, done_succ]; exact ih.trans (List.prefix_append _ _)

set_option maxRecDepth 100000 in
set_option maxHeartbeats 4000000 in
theorem rows_step (l0 : List Int) (hu : InU l0) (hn : l0.length ≤ 6) (b0 d : Nat) (row : List Int) (m : Int) (hrow : row.length + (d + 1) = l0.length) (hnd : row.Nodup) (hin : InN l0.length row) (hleft : U.Left l0.length m row)
    (ih : ∀ (k : Nat) (w : World) (bL bR bA : Nat) (A R : Option Addr) (cA cR : Nat), k < l0.length → row.contains (k : Int) = false →
      RowsAt w bL bR bA A R cA cR (notBit m k) l0 (row ++ [(k : Int)]) → b0 ≤ w.heap.size →
      SeqO Try.prog 56 #[.pointer (some ⟨bL, 0, none⟩), .pointer (some ⟨bR, 0, none⟩), .pointer (some ⟨bA, 0, none⟩)] (RepI b0) (XR bL bR bA (eff l0.length A) R) (extR l0 d (row ++ [(k : Int)])) w)
    (w : World) (bL bR bA : Nat) (A R : Option Addr) (cA cR : Nat)
    (hat : RowsAt w bL bR bA A R cA cR m l0 row) (hb0 : b0 ≤ w.heap.size) :
    SeqO Try.prog 56 #[.pointer (some ⟨bL, 0, none⟩), .pointer (some ⟨bR, 0, none⟩), .pointer (some ⟨bA, 0, none⟩)] (RepI b0) (XR bL bR bA (eff l0.length A) R) (extR l0 (d + 1) row) w := by
  intro l J Jx Own W hW hJ hJx hO hY h0 hX
  have hatW := hat.below hW
  have hm0 : (m == 0) = false := by rw [beq_eq_false_iff_ne]; exact left_more hn hleft (by omega)
  obtain ⟨W1, hW1⟩ : ∃ W1, W1 = W.alloc (.cells #[.func (.yield l) #[] #[]] 74) := ⟨_, rfl⟩
  have hB1 : Below W.heap.size W W1 := by rw [hW1]; exact (Below.refl _ W).alloc (Nat.le_refl _) _
  have hat1 := hatW.below hB1
  have hY1 : Boxed W1 W.heap.size 74 (.func (.yield l) #[] #[]) := by rw [hW1]; exact Boxed.new W 74 _
  have hJ1 := hJ [] W W1 none h0 (below_grown hB1) (fun r e => by cases e)
  have cL := hat1.hL.cell
  have cA1 := hat1.hA.cell
  rw [hW1] at cL cA1
  refine callsIn_of_wp_marks Try.func56 rfl trivial ?_ rfl
  simp only [Try.ntmps56, List.size_toArray, List.length_cons, List.length_nil, Nat.reduceAdd, Nat.reduceSub, Array.replicate_succ, Array.replicate_zero, List.push_toArray, List.append_toArray, List.nil_append, List.cons_append]
  have HM := Lib.hid hm0
  gi_wp2
  rw [← hW1] at cL cA1 ⊢
  have HW1 := Lib.hid hW1
  clear hW1
  refine wpIn_loop (fun a' wr => ∃ (k : Nat) (ds : List Deferred) (u5 u6 u7 u8 u9 u10 u11 u12 u16 u17 u18 u19 u20 u21 u22 u23 u24 u25 u26 u27 u28 u29 u30 u31 u32 u33 u34 u35 u36 u37 u38 u39 u40 u41 u42 u43 u44 u45 u46 : Value), k ≤ l0.length ∧ J (doneR l0 row d k) wr ∧ Fr Own [] W1 (doneR l0 row d k) wr ∧ Marks W.heap.size wr ds ∧
      a' = { tmps := #[.func (.yield l) #[] #[], .pointer (some ⟨bL, 0, none⟩), .pointer (some ⟨bR, 0, none⟩), .pointer (some ⟨bA, 0, none⟩), .pointer (some ⟨W.heap.size, 0, none⟩), u5, u6, u7, u8, u9, u10, u11, u12, .slice A l0.length cA, .int .i64 (l0.length : Int), .int .i64 (k : Int), u16, u17, u18, u19, u20, u21, u22, u23, u24, u25, u26, u27, u28, u29, u30, u31, u32, u33, u34, u35, u36, u37, u38, u39, u40, u41, u42, u43, u44, u45, u46], defers := ds }) (fun a' _ => l0.length - (intOf (a'.tmps.getD 15 undef)).toNat) ?start ?round
  case start => exact ⟨0, [], _, _, _, _, _, _, _, _, _, _, _, _, _, _, _, _, _, _, _, _, _, _, _, _, _, _, _, _, _, _, _, _, _, _, _, _, _, _, _, Nat.zero_le _, hJ1, Fr.refl _ _ _, trivial, rfl⟩
  case round =>
    rintro a' wr ⟨k, ds, u5, u6, u7, u8, u9, u10, u11, u12, u16, u17, u18, u19, u20, u21, u22, u23, u24, u25, u26, u27, u28, u29, u30, u31, u32, u33, u34, u35, u36, u37, u38, u39, u40, u41, u42, u43, u44, u45, u46, hk, hJk, hFr, hMk, rfl⟩
    dsimp only
    have hOX : ∀ r, XR bL bR bA (eff l0.length A) R r → ¬ Own [] W1 r := fun r hr ho => hX r hr (hO.step [] W W1 none h0 (below_grown hB1) (fun r e => by cases e) r ho)
    have hatr : RowsAt wr bL bR bA A R cA cR m l0 row := hat1.same (fun r hr => (hFr.2 r (hat1.lt r hr) (hOX r hr)).1) hFr.1
    have hOY : ¬ Own [] W1 W.heap.size := fun ho => by
      obtain ⟨o, h2, _⟩ := hO.cells [] W _ h0 (hO.step [] W W1 none h0 (below_grown hB1) (fun r e => by cases e) _ ho)
      have := (Array.getElem?_eq_some_iff.1 h2).1
      omega
    have hYr : Boxed wr W.heap.size 74 (.func (.yield l) #[] #[]) := ((hFr.2 _ hY1.lt hOY).1).trans hY1
    have cLr := hatr.hL.cell
    have cAr := hatr.hA.cell
    have cRr := hatr.hR.cell
    have cYr := hYr.cell
    clear cL cA1
    by_cases hlt : k < l0.length
    · have hb01 := bitAt_eq m k hleft.1 (by have := hleft.2.1; omega) (by omega)
      cases hc : row.contains (k : Int) with
      | true =>
        have b0 : (bits BinOp.and IntKind.u32 (m / 2 ^ k) 1 == 0) = true := by
          rw [beq_iff_eq]
          have h1 : ¬ bitAt m k = 1 := fun h => by rw [(left_bit hleft k (by omega) hlt).1 h] at hc; cases hc
          have h2 : bits BinOp.and IntKind.u32 (m / 2 ^ k) 1 = bitAt m k := by unfold bitAt; rw [Nat.min_eq_left (by omega)]
          omega
        have HC := Lib.hid hc
        have HBI := Lib.hid hb01
        clear hc hb01
        gi_wp2
        exact ⟨⟨k + 1, ds, _, _, _, _, _, _, _, _, _, _, _, _, _, _, _, _, _, _, _, _, _, _, _, _, _, _, _, _, _, _, _, _, _, _, _, _, _, _, _, by omega, by rw [done_succ, HC.out]; simpa using hJk, by rw [done_succ, HC.out]; simpa using hFr, hMk, rfl⟩, by simp [intOf]; omega⟩
      | false =>
        have b0 : (bits BinOp.and IntKind.u32 (m / 2 ^ k) 1 == 0) = false := by
          rw [beq_eq_false_iff_ne]
          have h1 : bitAt m k = 1 := (left_bit hleft k (by omega) hlt).2 hc
          have h2 : bits BinOp.and IntKind.u32 (m / 2 ^ k) 1 = bitAt m k := by unfold bitAt; rw [Nat.min_eq_left (by omega)]
          omega
        have HC := Lib.hid hc
        have HBI := Lib.hid hb01
        clear hc hb01
        obtain ⟨f, hf⟩ := free_f l0 row m hu hn hleft k (by omega)
        have hfree := Lib.hid (extend_free.calls f A cA l0 m (k : Int) _ wr hatr.rA hatr.lA hf)
        clear hf
        cases hfs : freeS l0 row k with
        | false =>
          rw [hfs] at hfree
          have HF := Lib.hid hfs
          clear hfs
          gi_wp2_with (gi_at_call 55; refine (callsIn_wide.2 hfree.out).mono ?_; rintro e w2 ⟨rfl, hD⟩)
          have hg2 : wr.grownBy w2 none := below_grown (drawn_below hD)
          exact ⟨⟨k + 1, ds, _, _, _, _, _, _, _, _, _, _, _, _, _, _, _, _, _, _, _, _, _, _, _, _, _, _, _, _, _, _, _, _, _, _, _, _, _, _, _, by omega, by rw [done_succ, HC.out, HF.out]; simpa using hJ _ wr w2 none hJk hg2 (fun r e => by cases e), by rw [done_succ, HC.out, HF.out]; simpa using hFr.trans (Fr.grown hO hJk hg2), hMk.keep (fun D hD2 => (hg2.block D (Array.getElem?_eq_some_iff.1 hD2).1 (fun e => by cases e)).trans hD2), rfl⟩, by simp [intOf]; omega⟩
        | true =>
          rw [hfs] at hfree
          have HF := Lib.hid hfs
          clear hfs
          gi_wp2_with (gi_at_call 55; refine (callsIn_wide.2 hfree.out).mono ?_; rintro e w2 ⟨rfl, hD⟩)
          have hg2 : wr.grownBy w2 none := below_grown (drawn_below hD)
          have hat2 := hatr.below (drawn_below hD)
          have cL2 := hat2.hL.cell
          have cA2 := hat2.hA.cell
          have cR2 := hat2.hR.cell
          clear cLr cAr cRr cYr hfree hD
          have lL := hat2.lt bL (.inl rfl)
          have lR := hat2.lt bR (.inr (.inl rfl))
          have lA := hat2.lt bA (.inr (.inr (.inl rfl)))
          obtain ⟨i0, hi, hz0, hz1, hz2⟩ := info_parts infoInt
          have HR2 := Lib.hid hat2.rR
          have HnR : R = none → row.length = 0 ∧ row.length = 0 := by
            rintro rfl
            have := HR2.out.2.2
            have h0 : row.length = 0 := by
              rcases Nat.eq_zero_or_pos row.length with h | h
              · exact h
              · obtain ⟨ad, e, _⟩ := this h; cases e
            exact ⟨h0, h0⟩
          have HNR := Lib.hid HnR
          clear HnR
          refine wpIn_wide.2 ?_
          go_region_held3 (fun w' => w'.cell? ⟨bL, 0, none⟩ = some (.int .u32 m) ∧ w'.cell? ⟨bR, 0, none⟩ = some (.slice R row.length cR) ∧ w'.cell? ⟨bA, 0, none⟩ = some (.slice A l0.length cA) ∧ Below w2.heap.size w2 w')
            (first
              | exact ⟨cL2, cR2, cA2, below_drew (Below.refl _ _)⟩
              | exact S7.below (w2 := w2) (A := w2) ⟨cL2, cR2, cA2, Below.refl _ _⟩ (below_drew (below_alloc (Below.refl _ _) _)) lL lR lA
              | exact S7.app cL2 cR2 cA2 hgrow lL lR lA
              | exact S7.app3 cL2 cR2 cA2 hgrow lL lR lA)
            (first
              | (refine step_append_grows (by rfl) _ _ 23 (by rfl) 3 i0 (.int .i64 0) 1 8 Try.underlying23 hi hz0 hz1 hz2 rfl (by decide) R row.length row.length (nums .i64 row) (by rfl) HNR.out (by simp [nums]) (C_cells (Kd.C_below HR2.out (below_drew (below_alloc (Below.refl _ _) _)))) ⟨w2.heap.size, 0, none⟩ 1 1 [.int .i64 (k : Int)] (by rfl) (by rfl) (cell_one_new _ _ _) (by simp [Value.oneCell']) (by omega) (by unfold maxLen; omega) (by omega) ?_; intro v' w3 hown hgrow; obtain ⟨g3, cap3, rfl⟩ := ownsRow_succ hown)
              | (go_at_call 57; refine (clip_any R row.length cR hatr.lR _).mono ?_; rintro e w' ⟨rfl, rfl⟩)
              | (go_at_call 53; refine (rows_makes _ _ _ _ _ _ _ _).mono ?_; rintro e w' ⟨rfl, rfl⟩))
          all_goals
            rename_i hHeld
            obtain ⟨W4, hW4⟩ : ∃ W4, W4 = (((w3.alloc (.cells #[.slice A l0.length cA] 22)).alloc (.cells #[.slice (some ⟨g3, 0, none⟩) (row.length + 1) cap3] 23)).alloc (.cells #[.int .u32 (bits BinOp.andNot IntKind.u32 m (IntKind.u32.wrap (2 ^ k)))] 35)) := ⟨_, rfl⟩
            have hb34 : Below w3.heap.size w3 W4 := by rw [hW4]; exact below_alloc (below_alloc (below_alloc (Below.refl _ _) _) _) _
            have hz4 : W4.heap.size = w3.heap.size + 3 := by rw [hW4]; simp
            have hz3 : w2.heap.size + 1 ≤ w3.heap.size := by have := hgrow.size; simpa using this
            rw [← hW4] at hHeld ⊢
            have hb24 := hHeld.2.2.2
            have hg24 : w2.grownBy W4 none := below_grown hb24
            have hmk : bits BinOp.andNot IntKind.u32 m (IntKind.u32.wrap (2 ^ k)) = notBit m k := by unfold notBit; rw [Nat.min_eq_left (by omega)]; rfl
            have hown2 : w3.ownsRow (w2.heap.size + 1) 3 1 (.slice (some ⟨g3, 0, none⟩) (row ++ [(k : Int)]).length cap3) (row ++ [(k : Int)]).length (nums .i64 (row ++ [(k : Int)])) := by
              have := hown
              simpa [nums] using this
            have hR3 := Kd.R_of_own (enc := Value.int .i64) (h1 := fun _ => rfl) (ok := fun _ => True) hown2 (fun k hk => trivial)
            have hr3 := Kd.R_reads' hR3
            have hg3 : w2.heap.size + 1 ≤ g3 ∧ g3 < w3.heap.size := ⟨Kd.R_base hR3 g3 rfl, Kd.R_lt hR3 g3 rfl⟩
            have hat4 : RowsAt W4 (w3.heap.size + 2) (w3.heap.size + 1) w3.heap.size A (some ⟨g3, 0, none⟩) cA cap3 (notBit m k) l0 (row ++ [(k : Int)]) := by
              refine ⟨?_, ?_, ?_, Kd.C_below hat2.rA hb24, Kd.C_below hr3.2.2 hb34, hat2.lA, hr3.2.1, fun ad e => Nat.lt_of_lt_of_le (hat2.bA ad e) hb24.size, fun ad e => by cases e; show g3 < _; omega⟩
              · have := Boxed.new ((w3.alloc (.cells #[.slice A l0.length cA] 22)).alloc (.cells #[.slice (some ⟨g3, 0, none⟩) (row.length + 1) cap3] 23)) 35 (.int .u32 (bits BinOp.andNot IntKind.u32 m (IntKind.u32.wrap (2 ^ k))))
                rw [← hW4, hmk] at this
                simpa using this
              · have := (Boxed.new (w3.alloc (.cells #[.slice A l0.length cA] 22)) 23 (.slice (some ⟨g3, 0, none⟩) (row.length + 1) cap3)).alloc (.cells #[.int .u32 (bits BinOp.andNot IntKind.u32 m (IntKind.u32.wrap (2 ^ k)))] 35)
                rw [← hW4] at this
                simpa using this
              · have := ((Boxed.new w3 22 (.slice A l0.length cA)).alloc (.cells #[.slice (some ⟨g3, 0, none⟩) (row.length + 1) cap3] 23)).alloc (.cells #[.int .u32 (bits BinOp.andNot IntKind.u32 m (IntKind.u32.wrap (2 ^ k)))] 35)
                rw [← hW4] at this
                exact this
            have hJ2 := hJ _ wr w2 none hJk hg2 (fun r e => by cases e)
            have hJ4 := hJ _ w2 W4 none hJ2 hg24 (fun r e => by cases e)
            have hFr4 : Fr Own [] W1 (doneR l0 row d k) W4 := (hFr.trans (Fr.grown hO hJk hg2)).trans (Fr.grown hO hJ2 hg24)
            have hFw : Fr Own (doneR l0 row d k) wr (doneR l0 row d k) W4 := (Fr.grown hO hJk hg2).trans (Fr.grown hO hJ2 hg24)
            have hnew : ∀ r, wr.heap.size ≤ r → ¬ Own (doneR l0 row d k) W4 r := fun r hr ho => by
              obtain ⟨o, h2, _⟩ := hO.cells _ wr r hJk (hO.step _ wr w2 none hJk hg2 (fun r e => by cases e) r (hO.step _ w2 W4 none hJ2 hg24 (fun r e => by cases e) r ho))
              have := (Array.getElem?_eq_some_iff.1 h2).1
              omega
            have hz2' := hg2.size
            have hseq := ih k W4 (w3.heap.size + 2) (w3.heap.size + 1) w3.heap.size A (some ⟨g3, 0, none⟩) cA cap3 hlt HC.out hat4 (by have := hW.size; have := hFr4.1; have := hB1.size; omega)
            have HEX := Lib.hid (show doneR l0 row d (k + 1) = doneR l0 row d k ++ extR l0 d (row ++ [(k : Int)]) by rw [done_succ, HC.out, HF.out]; simp)
            have HW4 := Lib.hid hW4
            have HZ4 := Lib.hid hz4
            have HMK := Lib.hid hmk
            clear hW4 hz4 hmk hHeld
            gi_wp2
            refine wpIn_rangeO (gf := 56) (lb := #[.pointer (some ⟨w3.heap.size + 2, 0, none⟩), .pointer (some ⟨w3.heap.size + 1, 0, none⟩), .pointer (some ⟨w3.heap.size, 0, none⟩)]) rfl (enters_of Try.func56 (by kernel_rfl) rfl) hseq rfl (fun x v A B row h hg hr => RepI.grown h hg hr)
              (fun pre W' => J (doneR l0 row d k ++ pre) W' ∧ Fr Own (doneR l0 row d k) W4 (doneR l0 row d k ++ pre) W')
              (fun pre W' r => Own (doneR l0 row d k ++ pre) W' r)
              (fun c pre W' => c = Code.ret ∧ Jx (doneR l0 row d k ++ pre) W' ∧ ∀ (D : Nat) (o : Obj), D < W4.heap.size → W.heap.size ≤ D → W4.heap[D]? = some o → o.isCells = false → W'.heap[D]? = some o)
              ?hI ?hO ?hIx ?h0 ?hX ?hround ?hdone ?hstop
            case hI =>
              rintro s A B row' ⟨h1, h2⟩ hg hr
              have hr' : ∀ r, row' = some r → W.heap.size ≤ r ∧ ∃ o : Obj, A.heap[r]? = some o ∧ o.isCells = false := fun r e => ⟨by have := (hr r e).1; have := hFr4.1; have := hB1.size; omega, (hr r e).2⟩
              refine ⟨hJ _ A B row' h1 hg hr', Nat.le_trans h2.1 hg.size, fun r hr2 ho => ?_⟩
              obtain ⟨h3, h4⟩ := h2.2 r hr2 ho
              exact ⟨(hg.block r (by have := h2.1; omega) (fun e => by have := (hr r e.symm).1; omega)).trans h3, fun h5 => h4 (hO.step _ A B row' h1 hg hr' r h5)⟩
            case hO =>
              refine ⟨fun s A r h1 ho => hO.cells _ A r h1.1 ho, fun s A B row' h1 hg hr => hO.step _ A B row' h1.1 hg (fun r e => ⟨by have := (hr r e).1; have := hFr4.1; have := hB1.size; omega, (hr r e).2⟩)⟩
            case hIx =>
              rintro c s A B row' ⟨h1, h2, h3⟩ hg hr
              refine ⟨h1, hJx _ A B row' h2 hg (fun r e => ⟨by have := (hr r e).1; have := hFr4.1; have := hB1.size; omega, (hr r e).2⟩), fun D o hD1 hD2 hD3 hD4 => ?_⟩
              have h5 := h3 D o hD1 hD2 hD3 hD4
              exact (hg.block D (Array.getElem?_eq_some_iff.1 h5).1 (fun e => by have := (hr D e.symm).1; omega)).trans h5
            case h0 => exact ⟨by simpa using hJ4, by simpa using Fr.refl Own _ W4⟩
            case hX =>
              intro r hr ho
              rw [List.append_nil] at ho
              rcases hr with rfl | rfl | rfl | ⟨ad, e, rfl⟩ | ⟨ad, e, rfl⟩
              · exact hnew _ (by omega) ho
              · exact hnew _ (by omega) ho
              · exact hnew _ (by omega) ho
              · exact (hFr4.2 _ (hat1.bA ad e) (hOX _ (.inr (.inr (.inr (.inl ⟨ad, e, rfl⟩)))))).2 ho
              · cases e
                exact hnew g3 (by omega) ho
            case hround =>
              intro l' pre x v Wa hpre hrep hown hI hsz
              gi_wp2
              refine ⟨by first | trivial | rfl, ?_⟩
              rintro Wb hrepb hownb ⟨hJb, hFb⟩ hszb
              have hYb : Boxed Wb W.heap.size 74 (.func (.yield l) #[] #[]) := by
                have h1 := hFw.2 W.heap.size hYr.lt (hFr.2 _ hY1.lt hOY).2
                have h2 := hFb.2 W.heap.size (Nat.lt_of_lt_of_le hYr.lt hFw.1) h1.2
                exact (h2.1.trans h1.1).trans hYr
              have cYb := hYb.cell
              obtain ⟨fn', tmps', assign', body', hy, hRd⟩ := hY (doneR l0 row d k ++ pre) x v Wb (by
                have h1 := done_pre l0 row d (k + 1) (by omega)
                rw [HEX.out] at h1
                rw [List.append_assoc]
                exact List.IsPrefix.trans ((List.prefix_append_right_inj _).2 hpre) h1) hrepb hownb hJb
              clear hseq
              gi_wp2
              refine RoundIn.mono hRd ?_
              rintro e Wc (⟨rfl, hJc, hkp, hnew2⟩ | ⟨rfl, hJc, hkf⟩)
              · gi_wp2
                refine ⟨⟨hkp.size, fun r o hr1 hr2 hr3 => ?_⟩, ⟨by rw [← List.append_assoc]; exact hJc, ?_⟩, hkp, fun r ho => hnew2 r (by rw [List.append_assoc]; exact ho)⟩
                · refine (hkp.block r (Array.getElem?_eq_some_iff.1 hr2).1 (fun ho => ?_)).trans hr2
                  obtain ⟨o2, h3, h4⟩ := hO.cells _ Wb r hJb ho
                  rw [hr2] at h3; cases h3; rw [hr3] at h4; cases h4
                · rw [← List.append_assoc]; exact hFb.trans (Fr.round hkp hnew2)
              · gi_wp2
                refine ⟨⟨hkf.size, fun r o hr1 hr2 hr3 => hkf.same r o (by have := hFr4.1; have := hB1.size; omega) hr2 hr3⟩, rfl, by rw [← List.append_assoc]; exact hJc, fun D o hD1 hD2 hD3 hD4 => ?_⟩
                refine hkf.same D o hD2 ?_ hD4
                refine (hFb.2 D hD1 (fun ho => ?_)).1.trans hD3
                obtain ⟨o2, h3, h4⟩ := hO.cells _ W4 D hJ4 ho
                rw [hD3] at h3; cases h3; rw [hD4] at h4; cases h4
            case hdone =>
              rintro D Wd hD ⟨hJd, hFd⟩ hK
              gi_wp2
              have hkeep : ∀ D' : Nat, wr.heap[D']? = some (Obj.deferred (some [])) → Wd.heap[D']? = some (Obj.deferred (some [])) := fun D' hD' => by
                have h0 : ¬ Own (doneR l0 row d k) wr D' := fun ho => by
                  obtain ⟨o2, h3, h4⟩ := hO.cells _ wr D' hJk ho
                  rw [hD'] at h3; cases h3; simp [Obj.isCells] at h4
                have h1 := (hFw.trans hFd).2 D' (Array.getElem?_eq_some_iff.1 hD').1 h0
                exact h1.1.trans hD'
              exact ⟨⟨k + 1, { target := .collected D, args := #[] } :: ds, _, _, _, _, _, _, _, _, _, _, _, _, _, _, _, _, _, _, _, _, _, _, _, _, _, _, _, _, _, _, _, _, _, _, _, _, _, _, _, by omega, by rw [HEX.out]; exact hJd, by rw [HEX.out]; exact hFr4.trans hFd,
                ⟨⟨D, by have := hFr4.1; have := hB1.size; omega, rfl, hK, fun d' hd' e => by have := hMk.lt d' hd' D e; have := hFw.1; omega⟩, hMk.keep hkeep⟩, rfl⟩, by simp [intOf]; omega⟩
            case hstop =>
              rintro D c pre Wd hD hpre ⟨rfl, hJd, hkd⟩ hK
              gi_wp2
              have hkeep : ∀ D' : Nat, wr.heap[D']? = some (Obj.deferred (some [])) → W.heap.size ≤ D' → Wd.heap[D']? = some (Obj.deferred (some [])) := fun D' hD' hge => by
                have h0 : ¬ Own (doneR l0 row d k) wr D' := fun ho => by
                  obtain ⟨o2, h3, h4⟩ := hO.cells _ wr D' hJk ho
                  rw [hD'] at h3; cases h3; simp [Obj.isCells] at h4
                have hlt' := (Array.getElem?_eq_some_iff.1 hD').1
                have h1 := hFw.2 D' hlt' h0
                exact hkd D' _ (Nat.lt_of_lt_of_le hlt' hFw.1) hge (h1.1.trans hD') rfl
              refine leaves_marks (n := W.heap.size) (K := fun W' => Jx (doneR l0 row d k ++ pre) W') (fun W => ⟨_, results_none rfl _ _ _⟩) (fun W' D hk hD hd => hJx _ W' _ (some D) hk (grownBy_putObj' W' D _) (fun r e => by cases e; exact ⟨hD, _, hd, rfl⟩)) (fun v W' hk => ⟨⟨_, rfl⟩, .inr ⟨_, ?_, hk⟩⟩) _ _ ⟨⟨D, by have := hFr4.1; have := hB1.size; omega, rfl, hK, fun d' hd' e => by have := hMk.lt d' hd' D e; have := hFw.1; omega⟩, hMk.keep2 hkeep⟩ hJd
              have h1 := done_pre l0 row d (k + 1) (by omega)
              rw [HEX.out] at h1
              exact List.IsPrefix.trans ((List.prefix_append_right_inj _).2 hpre) h1
    · obtain rfl : k = l0.length := by omega
      gi_wp2
      refine leaves_marks (n := W.heap.size) (K := fun W' => J (doneR l0 row d l0.length) W') (fun W => ⟨_, results_none rfl _ _ _⟩) (fun W' D hk hD hd => hJ _ W' _ (some D) hk (grownBy_putObj' W' D _) (fun r e => by cases e; exact ⟨hD, _, hd, rfl⟩)) (fun v W' hk => ⟨⟨_, rfl⟩, .inl hk⟩) _ _ hMk hJk

theorem rows_seq (l0 : List Int) (hu : InU l0) (hn : l0.length ≤ 6) (b0 : Nat) : ∀ (d : Nat) (row : List Int) (m : Int), row.length + d = l0.length → row.Nodup → InN l0.length row → U.Left l0.length m row →
    ∀ (w : World) (bL bR bA : Nat) (A R : Option Addr) (cA cR : Nat), RowsAt w bL bR bA A R cA cR m l0 row → b0 ≤ w.heap.size →
    SeqO Try.prog 56 #[.pointer (some ⟨bL, 0, none⟩), .pointer (some ⟨bR, 0, none⟩), .pointer (some ⟨bA, 0, none⟩)] (RepI b0) (XR bL bR bA (eff l0.length A) R) (extR l0 d row) w := by
  intro d
  induction d with
  | zero =>
    intro row m hl hnd hin hleft w bL bR bA A R cA cR hat hb
    obtain rfl : m = 0 := left_done hn hnd hin hleft (by omega)
    exact rows_zero l0 b0 row (by omega) w bL bR bA A R cA cR hat hb
  | succ d ih =>
    intro row m hl hnd hin hleft w bL bR bA A R cA cR hat hb
    refine rows_step l0 hu hn b0 d row m hl hnd hin hleft (fun k w2 bL2 bR2 bA2 A2 R2 cA2 cR2 hk hc hat2 hb2 => ?_) w bL bR bA A R cA cR hat hb
    have hk2 : (k : Int) ∉ row := by
      rw [← Bool.not_eq_true, List.contains_iff_mem] at hc; exact hc
    exact ih (row ++ [(k : Int)]) (notBit m k) (by simp; omega) (List.nodup_append.2 ⟨hnd, by simp, fun a ha b hb => by rw [List.mem_singleton] at hb; subst hb; intro e; subst e; exact hk2 ha⟩)
      (fun x hx => by rcases List.mem_append.1 hx with h | h; exact hin x h; (rw [List.mem_singleton] at h; subst h; omega)) (left_take hleft (by omega)) w2 bL2 bR2 bA2 A2 R2 cA2 cR2 hat2 hb2
end Go.Proofs.Ytimbamimabdmcaa.P

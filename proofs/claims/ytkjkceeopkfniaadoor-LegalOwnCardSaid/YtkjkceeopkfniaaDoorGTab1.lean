/- table.Table: what lies in memory while it runs, and how that moves. -/
import Derived.Test.YtkjkceeopkfniaaDoorGTake
import Derived.Test.YtkjkceeopkfniaaDoorGCheck
namespace Go.Proofs.YtkjkceeopkfniaaDoor.P
set_option linter.unusedVariables false
set_option linter.unusedSimpArgs false
open Go Go.RowKit Go.Proofs.YtkjkceeopkfniaaDoorW.PrintWords Go.Proofs.YtkjkceeopkfniaaDoorW.PrintLast Go.Proofs.YtkjkceeopkfniaaDoorW.PrintMore Go.Proofs.YtkjkceeopkfniaaDoor.U

def VP (b : Nat) : Value := .pointer (some ⟨b, 0, none⟩)
def kP : Kd Nat := Kd.scalar VP (fun _ => rfl)
abbrev TPt : TypeId := 102
abbrev TOp : TypeId := 52
abbrev TKp : TypeId := 104
def findB : List (Nat × KP) → Int → Option Nat
  | [], _ => none
  | p :: t, n => if p.2.name = n then some p.1 else findB t n
def newK (i n : Int) : KP := ⟨n, i, 0, 0, [], ⟨0, 0, 0, 0⟩⟩
def hasN (ks : List KP) (n : Int) : Bool := ks.any fun k => k.name == n
def insK (i n : Int) (ks : List KP) : List KP := if hasN ks n then ks else ks ++ [newK i n]
def updK (i : Int) (e : S36) (k : KP) : KP := if k.name = e.f1 then takeK i e k else k
def stepK (i : Int) (e : S36) (ks : List KP) : List KP := (insK i e.f1 ks).map (updK i e)
def tabK : Nat → List S36 → List KP → List KP
  | _, [], ks => ks
  | i, e :: t, ks => tabK (i + 1) t (stepK i e ks)
theorem findB_none (L : List (Nat × KP)) (n : Int) : findB L n = none ↔ hasN (L.map (·.2)) n = false := by
  induction L with
  | nil => simp [findB, hasN]
  | cons p t ih =>
    unfold findB
    by_cases h : p.2.name = n
    · simp [h, hasN]
    · rw [if_neg h, ih]
      have : (p.2.name == n) = false := beq_eq_false_iff_ne.2 h
      simp [hasN, this]
theorem findB_some {L : List (Nat × KP)} {n : Int} {b : Nat} (h : findB L n = some b) : ∃ k, (b, k) ∈ L ∧ k.name = n := by
  induction L with
  | nil => cases h
  | cons p t ih =>
    unfold findB at h
    by_cases hn : p.2.name = n
    · rw [if_pos hn] at h
      cases h
      exact ⟨p.2, List.mem_cons_self, hn⟩
    · rw [if_neg hn] at h
      obtain ⟨k, hk, e⟩ := ih h
      exact ⟨k, List.mem_cons_of_mem _ hk, e⟩
theorem findB_snoc (L : List (Nat × KP)) (b : Nat) (k : KP) (hn : findB L k.name = none) : findB (L ++ [(b, k)]) = setF (findB L) k.name b := by
  funext n
  unfold setF
  induction L with
  | nil =>
    simp only [List.nil_append, findB]
    by_cases h : k.name = n
    · rw [if_pos h, if_pos h.symm]
    · rw [if_neg h, if_neg (fun e => h e.symm)]
  | cons p t ih =>
    unfold findB at hn
    by_cases hp : p.2.name = k.name
    · rw [if_pos hp] at hn; cases hn
    · rw [if_neg hp] at hn
      simp only [List.cons_append, findB]
      by_cases h : p.2.name = n
      · rw [if_pos h, if_pos h, if_neg (fun e => hp (h.trans e))]
      · rw [if_neg h, if_neg h]
        exact ih hn
theorem upd_name (i : Int) (e : S36) (k : KP) : (updK i e k).name = k.name := by unfold updK; split <;> rfl
def updL (i : Int) (e : S36) (L : List (Nat × KP)) : List (Nat × KP) := L.map fun p => (p.1, updK i e p.2)
theorem findB_upd (i : Int) (e : S36) (L : List (Nat × KP)) : findB (updL i e L) = findB L := by
  funext n
  induction L with
  | nil => rfl
  | cons p t ih =>
    show (if (updK i e p.2).name = n then some p.1 else findB (updL i e t) n) = _
    rw [upd_name, ih]
    rfl
theorem updL_fst (i : Int) (e : S36) (L : List (Nat × KP)) : (updL i e L).map (·.1) = L.map (·.1) := by unfold updL; rw [List.map_map]; rfl
theorem updL_snd (i : Int) (e : S36) (L : List (Nat × KP)) : (updL i e L).map (·.2) = (L.map (·.2)).map (updK i e) := by unfold updL; rw [List.map_map, List.map_map]; rfl
/-- The map, the row of keepers, the keepers, and their rows of Ops. -/
structure TSt (B : Nat) (W : World) (bM : Nat) (v7 : Value) (vo : Nat → Value) (L : List (Nat × KP)) : Prop where
  bm : B ≤ bM
  map : MapIs VP W bM (findB L)
  row : Kd.R kP TPt W B (fun _ => True) v7 (L.map (·.1))
  kb : ∀ p ∈ L, KB W p.1 p.2 (vo p.1)
  ge : ∀ p ∈ L, B ≤ p.1
  sl : ∀ p ∈ L, ∃ A co, vo p.1 = .slice A p.2.ops.length co
  ks : ∀ p ∈ L, Kd.R k52 TOp W B (fun q => q ≠ p.1) (vo p.1) p.2.ops
  ap : ∀ p ∈ L, ∀ q ∈ L, p.1 ≠ q.1 → ∀ g, (vo p.1).ownBlock = some g → (vo q.1).ownBlock ≠ some g
  nb : ∀ p ∈ L, ∀ q ∈ L, p.1 = q.1 → p = q
  nn : ∀ p ∈ L, ∀ q ∈ L, p.2.name = q.2.name → p = q
  nd : (L.map (·.1)).Nodup
theorem tight52 {e W B} {ok : Nat → Prop} {v : Value} {xs : List S52} (h : Kd.R k52 e W B ok v xs) : Kd.R k52 e W B (fun k => v.ownBlock = some k) v xs :=
  ⟨fun _ hk => hk, h.2.imp_ (fun x cs hp => by obtain rfl := k52_openM hp; exact k52_mkM _ _ _ x)⟩
theorem loose52 {e W B} {ok : Nat → Prop} {v : Value} {xs : List S52} (h : Kd.R k52 e W B (fun k => v.ownBlock = some k) v xs) (hk : ∀ k, v.ownBlock = some k → ok k) : Kd.R k52 e W B ok v xs := Kd.R_mono h hk
theorem tightP {e W B} {ok : Nat → Prop} {v : Value} {xs : List Nat} (h : Kd.R kP e W B ok v xs) : Kd.R kP e W B (fun k => v.ownBlock = some k) v xs :=
  ⟨fun _ hk => hk, h.2.imp_ (fun x cs hp => hp)⟩
theorem TSt.move {B : Nat} {W W1 : World} {bM : Nat} {v7 : Value} {vo : Nat → Value} {L : List (Nat × KP)} (h : TSt B W bM v7 vo L) (hM : W1.heap[bM]? = W.heap[bM]?) (hK : ∀ p ∈ L, W1.heap[p.1]? = W.heap[p.1]?)
    (h7 : ∀ g, v7.ownBlock = some g → W1.heap[g]? = W.heap[g]?) (hv : ∀ p ∈ L, ∀ g, (vo p.1).ownBlock = some g → W1.heap[g]? = W.heap[g]?) : TSt B W1 bM v7 vo L :=
  ⟨h.bm, h.map.kept hM, Kd.R_mono (Kd.R_move (tightP h.row) h7) (fun _ _ => trivial), fun p hp => (hK p hp).trans (h.kb p hp), h.ge, h.sl,
    fun p hp => Kd.R_mono (Kd.R_move (tight52 (h.ks p hp)) (hv p hp)) (fun k hk => (h.ks p hp).1 k hk), h.ap, h.nb, h.nn, h.nd⟩
theorem own_lt' {α : Type} {d : Kd α} {e : Nat} {W : World} {B : Nat} {ok : Nat → Prop} {v : Value} {xs : List α} (h : Kd.R d e W B ok v xs) {g : Nat} (hg : v.ownBlock = some g) : g < W.heap.size ∧ ∃ cells, W.heap[g]? = some (.cells cells e (0, 0)) := by
  obtain ⟨_, inner, ho, _⟩ := h
  exact ⟨own_lt ho g hg, own_typed ho g hg⟩
theorem TSt.below {B : Nat} {W W1 : World} {bM : Nat} {v7 : Value} {vo : Nat → Value} {L : List (Nat × KP)} (h : TSt B W bM v7 vo L) (hb : Below W.heap.size W W1) : TSt B W1 bM v7 vo L :=
  h.move (hb.block _ h.map.lt) (fun p hp => hb.block _ (blk_lt (h.kb p hp))) (fun g hg => hb.block _ (own_lt' h.row hg).1) (fun p hp g hg => hb.block _ (own_lt' (h.ks p hp) hg).1)
theorem TSt.far {B : Nat} {W W1 : World} {bM : Nat} {v7 : Value} {vo : Nat → Value} {L : List (Nat × KP)} (h : TSt B W bM v7 vo L) {row : Option Nat} (hg : W.grownBy W1 row) {t : Nat} (hr : ∀ g, row = some g → ∃ cells, W.heap[g]? = some (.cells cells t (0, 0))) (h1 : t ≠ TOp) (h2 : t ≠ TPt) (h3 : t ≠ TKp) : TSt B W1 bM v7 vo L := by
  have ty : ∀ (g : Nat) (t' : Nat), (∃ cells, W.heap[g]? = some (.cells cells t' (0, 0))) → t ≠ t' → some g ≠ row := by
    rintro g t' ⟨cells, hc⟩ hne he
    obtain ⟨cells', hc'⟩ := hr g he.symm
    rw [hc] at hc'
    injection hc' with hc'
    injection hc' with _ hc'
    exact hne hc'.symm
  have hmM : some bM ≠ row := by
    intro he
    obtain ⟨cells', hc'⟩ := hr bM he.symm
    obtain ⟨es, c, l, hm, _⟩ := h.map
    rw [hm] at hc'
    cases hc'
  exact h.move (hg.block _ h.map.lt hmM) (fun p hp => hg.block _ (blk_lt (h.kb p hp)) (ty _ TKp ⟨_, h.kb p hp⟩ h3)) (fun g hgg => hg.block _ (own_lt' h.row hgg).1 (ty _ TPt (own_lt' h.row hgg).2 h2)) (fun p hp g hgg => hg.block _ (own_lt' (h.ks p hp) hgg).1 (ty _ TOp (own_lt' (h.ks p hp) hgg).2 h1))
theorem neTy {W : World} {g g' t t' : Nat} {cs cs' : Array Value} (h : W.heap[g]? = some (.cells cs t (0, 0))) (h' : W.heap[g']? = some (.cells cs' t' (0, 0))) (hne : t ≠ t') : g ≠ g' := blk_ne h h' hne
theorem neMap {W : World} {g g' t : Nat} {cs : Array Value} {f : Int → Option Nat} (h : W.heap[g]? = some (.cells cs t (0, 0))) (h' : MapIs VP W g' f) : g' ≠ g := by
  rintro rfl
  obtain ⟨es, c, l, hm, _⟩ := h'
  rw [h] at hm
  cases hm
/-- A keeper takes an event. -/
theorem TSt.take {B : Nat} {W W1 : World} {bM b : Nat} {v7 : Value} {vo : Nat → Value} {L : List (Nat × KP)} {k : KP} (h : TSt B W bM v7 vo L) (hm : (b, k) ∈ L) (i : Int) (e : S36) (hn : k.name = e.f1) (hr : TRes W W1 B b (takeK i e k) (vo b)) :
    ∃ vo', TSt B W1 bM v7 vo' (updL i e L) := by
  obtain ⟨⟨A, co, hK, hR, hat⟩, hbl, hkp⟩ := hr
  have hKb := h.kb _ hm
  have hks := h.ks _ hm
  dsimp only at hKb hks
  have hown : ∀ g, (vo b).ownBlock = some g → ∃ cells, W.heap[g]? = some (.cells cells TOp (0, 0)) := fun g hg => (own_lt' hks hg).2
  -- what is another block, stays
  have stay : ∀ g o, W.heap[g]? = some o → g ≠ b → (vo b).ownBlock ≠ some g → W1.heap[g]? = W.heap[g]? := fun g o ho h1 h2 => hkp.2 g (blk_lt ho) (by rintro (h3 | h3); exact h1 h3; exact h2 h3.symm)
  have hfst : ∀ p ∈ updL i e L, ∃ q ∈ L, p = (q.1, updK i e q.2) := by
    intro p hp
    obtain ⟨q, hq, rfl⟩ := List.mem_map.1 hp
    exact ⟨q, hq, rfl⟩
  have hupb : updK i e k = takeK i e k := by unfold updK; rw [if_pos hn]
  have other : ∀ q ∈ L, q.1 ≠ b → updK i e q.2 = q.2 := by
    intro q hq hqb
    unfold updK
    rw [if_neg]
    intro hnn
    have := h.nn q hq _ hm (hnn.trans hn.symm)
    rw [this] at hqb
    exact hqb rfl
  have isb : ∀ q ∈ L, q.1 = b → q = (b, k) := fun q hq hqb => h.nb q hq _ hm hqb
  refine ⟨fun g => if g = b then .slice A (takeK i e k).ops.length co else vo g, h.bm, ?_, ?_, ?_, ?_, ?_, ?_, ?_, ?_, ?_, by rw [updL_fst]; exact h.nd⟩
  · rw [findB_upd]
    refine h.map.kept ?_
    obtain ⟨es, c, l, hm1, _⟩ := h.map
    refine stay bM _ hm1 (neMap hKb h.map) (fun hg => ?_)
    obtain ⟨cells, hc⟩ := hown bM hg
    rw [hm1] at hc
    cases hc
  · rw [updL_fst]
    refine Kd.R_mono (Kd.R_move (tightP h.row) (fun g hg => ?_)) (fun _ _ => trivial)
    obtain ⟨cells, hc⟩ := (own_lt' h.row hg).2
    refine stay g _ hc (neTy hc hKb (by decide)) (fun hg2 => ?_)
    obtain ⟨cells2, hc2⟩ := hown g hg2
    exact neTy hc hc2 (by decide) rfl
  · intro p hp
    obtain ⟨q, hq, rfl⟩ := hfst p hp
    by_cases hqb : q.1 = b
    · obtain rfl := isb q hq hqb
      dsimp only
      rw [if_pos rfl, hupb]
      exact hK
    · dsimp only
      rw [if_neg hqb, other q hq hqb]
      have hq1 := h.kb q hq
      unfold KB at hq1 ⊢
      rw [stay q.1 _ hq1 hqb (fun hg => ?_)]
      · exact hq1
      · obtain ⟨cells2, hc2⟩ := hown q.1 hg
        exact neTy hq1 hc2 (by decide) rfl
  · intro p hp
    obtain ⟨q, hq, rfl⟩ := hfst p hp
    exact h.ge q hq
  · intro p hp
    obtain ⟨q, hq, rfl⟩ := hfst p hp
    by_cases hqb : q.1 = b
    · obtain rfl := isb q hq hqb
      dsimp only
      rw [if_pos rfl, hupb]
      exact ⟨A, co, rfl⟩
    · dsimp only
      rw [if_neg hqb, other q hq hqb]
      exact h.sl q hq
  · intro p hp
    obtain ⟨q, hq, rfl⟩ := hfst p hp
    by_cases hqb : q.1 = b
    · obtain rfl := isb q hq hqb
      dsimp only
      rw [if_pos rfl, hupb]
      exact hR
    · dsimp only
      rw [if_neg hqb, other q hq hqb]
      refine Kd.R_mono (Kd.R_move (tight52 (h.ks q hq)) (fun g hg => ?_)) (fun g hg => (h.ks q hq).1 g hg)
      obtain ⟨cells, hc⟩ := (own_lt' (h.ks q hq) hg).2
      exact stay g _ hc (neTy hc hKb (by decide)) (h.ap q hq _ hm hqb g hg)
  · intro p hp p' hp' hne g hg
    obtain ⟨q, hq, rfl⟩ := hfst p hp
    obtain ⟨q', hq', rfl⟩ := hfst p' hp'
    dsimp only at hne hg ⊢
    by_cases hqb : q.1 = b
    · have hqb' : q'.1 ≠ b := fun e => hne (hqb.trans e.symm)
      rw [if_pos hqb] at hg
      rw [if_neg hqb']
      intro hg'
      rcases hat with h1 | ⟨g2, h1, h2⟩
      · rw [hg] at h1
        exact h.ap _ hm q' hq' (fun e => hqb' e.symm) g h1.symm hg'
      · rw [hg] at h1
        cases h1
        have := (own_lt' (h.ks q' hq') hg').1
        omega
    · rw [if_neg hqb] at hg
      by_cases hqb' : q'.1 = b
      · rw [if_pos hqb']
        intro hg'
        rcases hat with h1 | ⟨g2, h1, h2⟩
        · rw [hg'] at h1
          exact h.ap q hq _ hm hqb g hg h1.symm
        · rw [hg'] at h1
          cases h1
          have := (own_lt' (h.ks q hq) hg).1
          omega
      · rw [if_neg hqb']
        exact h.ap q hq q' hq' hne g hg
  · intro p hp p' hp' he
    obtain ⟨q, hq, rfl⟩ := hfst p hp
    obtain ⟨q', hq', rfl⟩ := hfst p' hp'
    rw [h.nb q hq q' hq' he]
  · intro p hp p' hp' he
    obtain ⟨q, hq, rfl⟩ := hfst p hp
    obtain ⟨q', hq', rfl⟩ := hfst p' hp'
    dsimp only at he
    rw [upd_name, upd_name] at he
    rw [h.nn q hq q' hq' he]
/-- A new keeper: the row has grown, the map tells it. -/
theorem TSt.add {B : Nat} {W W1 W2 : World} {bM b : Nat} {v7 v7' : Value} {vo : Nat → Value} {L : List (Nat × KP)} {k : KP} (h : TSt B W bM v7 vo L) (hK : KB W b k (.slice none 0 0)) (hops : k.ops = []) (hge : B ≤ b) (hnew : ∀ p ∈ L, p.1 ≠ b) (hnone : findB L k.name = none)
    (hrow : Kd.R kP TPt W1 B (fun _ => True) v7' (L.map (·.1) ++ [b])) (hg : W.grownBy W1 v7.ownBlock) (hput : MPut W1 W2 bM) (hmap : MapIs VP W2 bM (setF (findB L) k.name b)) : TSt B W2 bM v7' (fun g => if g = b then .slice none 0 0 else vo g) (L ++ [(b, k)]) := by
  have ty7 : ∀ (g : Nat) (t : TypeId) (cs : Array Value), W.heap[g]? = some (.cells cs t (0, 0)) → t ≠ TPt → W2.heap[g]? = W.heap[g]? := by
    intro g t cs hc ht
    have h1 : W1.heap[g]? = W.heap[g]? := hg.block g (blk_lt hc) (fun he => by
      obtain ⟨cells, hc2⟩ := (own_lt' h.row he.symm).2
      exact neTy hc hc2 ht rfl)
    rw [hput.other g (fun e => by subst e; exact neMap hc h.map rfl), h1]
  have hmem : ∀ p ∈ L ++ [(b, k)], p ∈ L ∨ p = (b, k) := by
    intro p hp
    rcases List.mem_append.1 hp with hp | hp
    · exact .inl hp
    · exact .inr (by simpa using hp)
  have hb1 : b < W.heap.size := blk_lt hK
  refine ⟨h.bm, ?_, ?_, ?_, ?_, ?_, ?_, ?_, ?_, ?_, by
    rw [List.map_append, List.nodup_append]
    refine ⟨h.nd, by simp, ?_⟩
    intro x hx y hy
    obtain ⟨p, hp, rfl⟩ := List.mem_map.1 hx
    have : y = b := by simpa using hy
    subst this
    exact hnew p hp⟩
  · rw [findB_snoc _ _ _ hnone]; exact hmap
  · rw [List.map_append]
    refine Kd.R_mono (Kd.R_move (tightP hrow) (fun g hgg => ?_)) (fun _ _ => trivial)
    obtain ⟨cells, hc⟩ := (own_lt' hrow hgg).2
    have hmW1 : MapIs VP W1 bM (findB L) := h.map.kept (hg.block bM h.map.lt (fun he => by
      obtain ⟨cells, hc2⟩ := (own_lt' h.row he.symm).2
      exact neMap hc2 h.map rfl))
    exact hput.other g (fun e => by subst e; exact neMap hc hmW1 rfl)
  · intro p hp
    rcases hmem p hp with hp | rfl
    · (try dsimp only)
      rw [if_neg (hnew p hp)]
      have := h.kb p hp
      unfold KB at this ⊢
      rw [ty7 _ _ _ this (by decide)]
      exact this
    · (try dsimp only)
      rw [if_pos rfl]
      unfold KB at hK ⊢
      rw [ty7 _ _ _ hK (by decide)]
      exact hK
  · intro p hp
    rcases hmem p hp with hp | rfl
    · exact h.ge p hp
    · exact hge
  · intro p hp
    rcases hmem p hp with hp | rfl
    · (try dsimp only)
      rw [if_neg (hnew p hp)]
      exact h.sl p hp
    · (try dsimp only)
      rw [if_pos rfl, hops]
      exact ⟨none, 0, rfl⟩
  · intro p hp
    rcases hmem p hp with hp | rfl
    · (try dsimp only)
      rw [if_neg (hnew p hp)]
      refine Kd.R_mono (Kd.R_move (tight52 (h.ks p hp)) (fun g hgg => ?_)) (fun g hgg => (h.ks p hp).1 g hgg)
      obtain ⟨cells, hc⟩ := (own_lt' (h.ks p hp) hgg).2
      exact ty7 _ _ _ hc (by decide)
    · (try dsimp only)
      rw [if_pos rfl, hops]
      exact Kd.R_nil _ _ _ _ _
  · intro p hp q hq hne g hgg
    rcases hmem p hp with hp | rfl
    · rcases hmem q hq with hq | rfl
      · (try dsimp only at hgg ⊢)
        rw [if_neg (hnew p hp)] at hgg
        rw [if_neg (hnew q hq)]
        exact h.ap p hp q hq hne g hgg
      · (try dsimp only)
        rw [if_pos rfl]
        simp [Value.ownBlock]
    · (try dsimp only at hgg)
      rw [if_pos rfl] at hgg
      simp [Value.ownBlock] at hgg
  · intro p hp q hq he
    rcases hmem p hp with hp | rfl
    · rcases hmem q hq with hq | rfl
      · exact h.nb p hp q hq he
      · exact absurd he (hnew p hp)
    · rcases hmem q hq with hq | rfl
      · exact absurd he.symm (hnew q hq)
      · rfl
  · have hno : ∀ p ∈ L, p.2.name ≠ k.name := by
      intro p hp he
      have := (findB_none L k.name).1 hnone
      unfold hasN at this
      have h2 := List.any_eq_false.1 this p.2 (List.mem_map_of_mem hp)
      exact h2 (by simpa using he)
    intro p hp q hq he
    rcases hmem p hp with hp | rfl
    · rcases hmem q hq with hq | rfl
      · exact h.nn p hp q hq he
      · exact absurd he (hno p hp)
    · rcases hmem q hq with hq | rfl
      · exact absurd he.symm (hno q hq)
      · rfl
end Go.Proofs.YtkjkceeopkfniaaDoor.P

/- Proved: the events that any bytes tell, or the error, and where, are as the reference says. No condition. -/
import Derived.Test.YthkpocgbinmeiaaP6
import Derived.Test.YthkpocgbinmeiaaUNum
import Derived.Test.YthkpocgbinmeiaaUGetS
import Derived.Test.YthkpocgbinmeiaaGParse
import Derived.Test.YthkpocgbinmeiaaP4
import Derived.Test.YthkpocgbinmeiaaP2
import Derived.Laws.BitsLemmas
namespace Go.Proofs.Ythkpocgbinmeiaa.Pure
set_option linter.unusedVariables false
set_option linter.unusedSimpArgs false
open Go Go.RowKit Go.Proofs.Ythkpocgbinmeiaa.P Go.Proofs.YthkpocgbinmeiaaW.PrintWords Go.Proofs.YthkpocgbinmeiaaW.PrintLast Go.Proofs.YthkpocgbinmeiaaW.PrintMore Go.Proofs.Ythkpocgbinmeiaa.U

theorem bxor_eq (x y : Int) : Go.bits .xor .i64 x y = wrap64 ((BitVec.ofInt 64 x ^^^ BitVec.ofInt 64 y).toNat : Int) := by rw [← Go.Proofs.Ythkpocgbinmeiaa.P.wrapE]; rfl
theorem bxor_zero (x : Int) (h : -9223372036854775808 ≤ x) (h2 : x < 9223372036854775808) : Go.bits .xor .i64 x 0 = x := by
  rw [bxor_eq, show BitVec.ofInt 64 0 = 0#64 from rfl, BitVec.xor_zero, BitVec.toNat_ofInt]
  unfold wrap64
  omega
theorem bxor_neg (x : Int) (h : -9223372036854775808 ≤ x) (h2 : x < 9223372036854775808) : Go.bits .xor .i64 x (-1) = -1 - x := by
  rw [bxor_eq, show BitVec.ofInt 64 (-1) = BitVec.allOnes 64 by decide, BitVec.xor_allOnes, BitVec.toNat_not, BitVec.toNat_ofInt]
  unfold wrap64
  omega
theorem band1 (n : Nat) (hn : n < 18446744073709551616) : Go.bits .and .u64 (n : Int) 1 = (n : Int) % 2 :=
  Go.bits_mask .u64 64 (by decide) (fun n a b => wu64 a (by omega)) 1 (by decide) n (by omega) (by omega)
theorem bzag (n : Nat) (hn : n < 18446744073709551616) : recantref03_Zag.f (n : Int) = some (zagS (n : Int)) := by
  unfold recantref03_Zag.f zagS
  rw [band1 n hn, w64 (x := (n : Int) % 2) (by omega) (by omega), w64 (x := -((n : Int) % 2)) (by omega) (by omega), w64 (x := (n : Int) / 2) (by omega) (by omega)]
  rw [Int.tmod_eq_emod_of_nonneg (by omega), Int.tdiv_eq_ediv_of_nonneg (by omega), wu64 (x := (n : Int) / 2) (by omega) (by omega)]
  by_cases h0 : (n : Int) % 2 = 0
  · rw [if_pos h0, h0, show -(0 : Int) = 0 from rfl, bxor_zero _ (by omega) (by omega), w64 (by omega) (by omega)]
  · rw [if_neg h0, show (n : Int) % 2 = 1 by omega, bxor_neg _ (by omega) (by omega), w64 (x := (n : Int) / 2) (by omega) (by omega), w64 (x := -((n : Int) / 2)) (by omega) (by omega), w64 (by omega) (by omega)]
    congr 1; omega
theorem bzag_some (x : Int) : ∃ y, recantref03_Zag.f x = some y := by
  unfold recantref03_Zag.f
  split <;> exact ⟨_, rfl⟩

/-- Where a reader stands, or where an error is, and the error. -/
def atS (s : RSt) : Int := if s.bad = 0 then s.pos else s.wh
theorem at_ok {s : RSt} (h : s.bad = 0) : atS s = s.pos := if_pos h
theorem at_bad {s : RSt} (h : s.bad ≠ 0) : atS s = s.wh := if_neg h
theorem at_fail {s : RSt} (h : s.bad = 0) (a e : Int) (he : e ≠ 0) : atS (failS s a e) = a ∧ (failS s a e).bad = e := by
  unfold failS; rw [if_pos h]; exact ⟨if_neg he, rfl⟩
theorem fail_bad {s : RSt} (h : s.bad ≠ 0) (a e : Int) : failS s a e = s := if_neg h

theorem num_bad {l : List Int} {e : Nat} {s : RSt} (h : s.bad ≠ 0) : numS l e s = (0, s) := by unfold numS; rw [if_neg h]
theorem num_was {l : List Int} {e : Nat} {s : RSt} (h : (numS l e s).2.bad = 0) : s.bad = 0 := by
  by_cases hb : s.bad = 0
  · exact hb
  · rw [num_bad hb] at h; exact h
theorem rnum {l : List Int} (hl : ∀ x ∈ l, 0 ≤ x ∧ x ≤ 255) (hlen : l.length ≤ 1000000) (e : Nat) (he : e ≤ l.length) (s : RSt) (a : Int) :
    ∃ x, Ev (fun k => recantref04_number.f k l a (atS s) s.bad (e : Int)) (x, atS (numS l e s).2, (numS l e s).2.bad) ∧ ((numS l e s).2.bad = 0 → x = (numS l e s).1) := by
  by_cases hb : s.bad = 0
  · obtain ⟨K, hK⟩ := (get_sameG (l.take e) (fun x hx => hl x (List.mem_of_mem_take hx)) (by rw [List.length_take]; omega) s.pos).2
    have hf : ∀ k, K ≤ k → recantref04_number.f k l a (atS s) s.bad (e : Int) = some (getS (l.take e) s.pos) := by
      intro k hk
      have := hK k hk
      dsimp only at this
      unfold recantref04_number.f
      rw [if_pos hb, if_pos (by omega), if_pos (by omega), Int.toNat_natCast, at_ok hb, this, Option.bind_some]
    obtain ⟨r1, r2, r3, hr⟩ : ∃ r1 r2 r3, getS (l.take e) s.pos = (r1, r2, r3) := ⟨_, _, _, rfl⟩
    rw [hr] at hf
    have hn : numS l e s = if r3 = 0 then (r1, ⟨r2, s.bad, s.wh⟩) else (0, ⟨s.pos, r3, r2⟩) := by unfold numS; rw [if_pos hb, hr]
    rw [hn]
    by_cases h3 : r3 = 0
    · rw [if_pos h3]
      refine ⟨r1, ⟨K, fun k hk => ?_⟩, fun _ => rfl⟩
      dsimp only
      rw [hf k hk, at_ok (s := ⟨r2, s.bad, s.wh⟩) hb, hb, h3]
    · rw [if_neg h3]
      refine ⟨r1, ⟨K, fun k hk => ?_⟩, fun h => absurd h h3⟩
      dsimp only
      rw [hf k hk, at_bad h3]
  · refine ⟨a, ⟨0, fun k _ => ?_⟩, fun h => absurd (num_was h) hb⟩
    dsimp only
    unfold recantref04_number.f
    rw [if_neg hb, num_bad hb]
theorem most_was {l : List Int} {e t : Nat} {s : RSt} (h : (mostS l e t s).2.bad = 0) : s.bad = 0 := by
  unfold mostS at h
  split at h
  case isTrue hc => exact num_was hc.1
  case isFalse hc => exact num_was h
theorem rmost {l : List Int} (hl : ∀ x ∈ l, 0 ≤ x ∧ x ≤ 255) (hlen : l.length ≤ 1000000) (e : Nat) (he : e ≤ l.length) (t : Nat) (s : RSt) (a : Int) :
    ∃ x, Ev (fun k => recantref04_most.f k l a (atS s) s.bad (e : Int) (t : Int)) (x, atS (mostS l e t s).2, (mostS l e t s).2.bad) ∧ ((mostS l e t s).2.bad = 0 → x = (mostS l e t s).1) := by
  obtain ⟨x, ⟨K, hK⟩, hx⟩ := rnum hl hlen e he s a
  unfold mostS
  by_cases hb : (numS l e s).2.bad = 0
  · have hx := hx hb
    have hs := num_was hb
    by_cases ht : (t : Int) < (numS l e s).1
    · rw [if_pos ⟨hb, ht⟩]
      obtain ⟨f1, f2⟩ := at_fail hb s.pos 3 (by decide)
      refine ⟨0, ⟨K, fun k hk => ?_⟩, fun _ => rfl⟩
      have := hK k hk
      dsimp only at this ⊢
      unfold recantref04_most.f
      rw [this, Option.bind_some]
      dsimp only
      rw [if_pos hb, if_pos (by rw [hx]; exact ht), f1, f2, at_ok hs]
    · rw [if_neg (fun h => ht h.2)]
      refine ⟨x, ⟨K, fun k hk => ?_⟩, fun _ => hx⟩
      have := hK k hk
      dsimp only at this ⊢
      unfold recantref04_most.f
      rw [this, Option.bind_some]
      dsimp only
      rw [if_pos hb, if_neg (by rw [hx]; exact ht)]
  · rw [if_neg (fun h => hb h.1)]
    refine ⟨x, ⟨K, fun k hk => ?_⟩, fun h => absurd h hb⟩
    have := hK k hk
    dsimp only at this ⊢
    unfold recantref04_most.f
    rw [this, Option.bind_some]
    dsimp only
    rw [if_neg hb]
theorem zag0 : zagS 0 = 0 := by decide +kernel
theorem rsigned {l : List Int} (hl : ∀ x ∈ l, 0 ≤ x ∧ x ≤ 255) (hlen : l.length ≤ 1000000) (e : Nat) (he : e ≤ l.length) (s : RSt) (a : Int) :
    ∃ x y, Ev (fun k => recantref04_signed.f k l a (atS s) s.bad (e : Int)) (x, atS (signedS l e s).2, (signedS l e s).2.bad) ∧ recantref03_Zag.f x = some y ∧ ((signedS l e s).2.bad = 0 → y = (signedS l e s).1) := by
  obtain ⟨x, ⟨K, hK⟩, hx⟩ := rnum hl hlen e he s a
  unfold signedS
  by_cases hb : (numS l e s).2.bad = 0
  · have hx := hx hb
    have hs := num_was hb
    obtain ⟨_, n0, n1, _, _⟩ := num_ok hl he hb
    have hz : recantref03_Zag.f x = some (zagS (numS l e s).1) := by
      have := bzag (numS l e s).1.toNat (by omega)
      rw [Int.toNat_of_nonneg n0] at this
      rw [hx]; exact this
    have f := at_fail hb s.pos 3 (by decide)
    by_cases hlo : zagS (numS l e s).1 < -2147483648
    · rw [if_pos (.inl hlo)]
      refine ⟨0, 0, ⟨K, fun k hk => ?_⟩, by decide +kernel, fun _ => rfl⟩
      have := hK k hk
      dsimp only at this ⊢
      unfold recantref04_signed.f
      rw [this, Option.bind_some]
      dsimp only
      rw [hz, Option.bind_some, if_pos hb, if_pos hlo, f.1, f.2, at_ok hs]
    · by_cases hhi : 2147483647 < zagS (numS l e s).1
      · rw [if_pos (.inr hhi)]
        refine ⟨0, 0, ⟨K, fun k hk => ?_⟩, by decide +kernel, fun _ => rfl⟩
        have := hK k hk
        dsimp only at this ⊢
        unfold recantref04_signed.f
        rw [this, Option.bind_some]
        dsimp only
        rw [hz, Option.bind_some, if_pos hb, if_neg hlo, if_pos hhi, f.1, f.2, at_ok hs]
      · rw [if_neg (by rintro (h | h) <;> contradiction)]
        refine ⟨x, zagS (numS l e s).1, ⟨K, fun k hk => ?_⟩, hz, fun _ => rfl⟩
        have := hK k hk
        dsimp only at this ⊢
        unfold recantref04_signed.f
        rw [this, Option.bind_some]
        dsimp only
        rw [hz, Option.bind_some, if_pos hb, if_neg hlo, if_neg hhi]
  · rw [num_zero hb, zag0, if_neg (by decide)]
    obtain ⟨y, hy⟩ := bzag_some x
    refine ⟨x, y, ⟨K, fun k hk => ?_⟩, hy, fun h => absurd h hb⟩
    have := hK k hk
    dsimp only at this ⊢
    unfold recantref04_signed.f
    rw [this, Option.bind_some]
    dsimp only
    rw [hy, Option.bind_some, if_neg hb]
theorem signed_was {l : List Int} {e : Nat} {s : RSt} (h : (signedS l e s).2.bad = 0) : s.bad = 0 := by
  unfold signedS at h
  split at h
  case isTrue hc =>
    by_cases hb : (numS l e s).2.bad = 0
    · exact num_was hb
    · rw [fail_bad hb] at h; exact absurd h hb
  case isFalse hc => exact num_was h
theorem rhas (l : List Int) (a : Int) (hl : l.length < 1000000) (d : Nat) : ∀ i : Nat, i + d = l.length → Ev (fun k => recantref02_Has.l0 k a l (l.length : Int) (i : Int)) ((l.drop i).contains a) := by
  induction d with
  | zero =>
    intro i hi
    refine ⟨1, fun k hk => ?_⟩
    obtain ⟨k, rfl⟩ : ∃ m, k = m + 1 := ⟨k - 1, by omega⟩
    simp only [recantref02_Has.l0]
    rw [if_neg (by omega), show i = l.length by omega, List.drop_length]; rfl
  | succ d ih =>
    intro i hi
    obtain ⟨K, e⟩ := ih (i + 1) (by omega)
    refine ⟨K + 1, fun k hk => ?_⟩
    obtain ⟨k, rfl⟩ : ∃ m, k = m + 1 := ⟨k - 1, by omega⟩
    simp only [recantref02_Has.l0]
    rw [if_pos (by omega), if_pos (by omega), if_pos (by omega), List.drop_eq_getElem_cons (by omega : i < l.length)]
    have hg : rd l (i : Int) = l[i]'(by omega) := by unfold rd; simp [List.getD_eq_getElem?_getD, List.getElem?_eq_getElem (show i < l.length by omega)]
    rw [hg, List.contains_cons]
    by_cases h : l[i]'(by omega) = a
    · rw [if_pos h, h]; simp
    · rw [if_neg h, w64 (by omega) (by omega), show ((i : Int) + 1) = ((i + 1 : Nat) : Int) by omega]
      have := e k (by omega)
      dsimp only at this
      rw [this]
      congr 1
      have hne : (a == l[i]'(by omega)) = false := by
        rw [beq_eq_false_iff_ne]; exact fun h2 => h h2.symm
      rw [hne, Bool.false_or]
theorem rhas_f (l : List Int) (a : Int) (hl : l.length < 1000000) : Ev (fun k => recantref02_Has.f k l a) (l.contains a) := by
  have := rhas l a hl l.length 0 (by omega)
  rw [List.drop_zero] at this
  exact this
theorem rnames (evs : List S76) (hl : evs.length ≤ 1000) (d : Nat) : ∀ i : Nat, i + d = evs.length → Ev (fun k => recantref02_Names.l0 k (namesF (evs.take i)) evs (evs.length : Int) (i : Int)) (namesF evs) := by
  induction d with
  | zero =>
    intro i hi
    refine ⟨1, fun k hk => ?_⟩
    obtain ⟨k, rfl⟩ : ∃ m, k = m + 1 := ⟨k - 1, by omega⟩
    simp only [recantref02_Names.l0]
    rw [if_neg (by omega), show i = evs.length by omega, List.take_length]
  | succ d ih =>
    intro i hi
    obtain ⟨K, e⟩ := ih (i + 1) (by omega)
    have hnl := names_len (evs.take i)
    rw [List.length_take] at hnl
    obtain ⟨K2, e2⟩ := rhas_f (namesF (evs.take i)) (rd_T76 evs (i : Int)).f1 (by omega)
    refine ⟨max K K2 + 1, fun k hk => ?_⟩
    obtain ⟨k, rfl⟩ : ∃ m, k = m + 1 := ⟨k - 1, by omega⟩
    have e := e k (by omega)
    have e2 := e2 k (by omega)
    rw [take_snocE evs i (by omega), names_snoc] at e
    dsimp only at e e2
    simp only [recantref02_Names.l0]
    rw [if_pos (by omega), if_pos (by omega), if_pos (by omega), e2, Option.bind_some, w64 (by omega) (by omega), show ((i : Int) + 1) = ((i + 1 : Nat) : Int) by omega]
    unfold addN at e
    by_cases hc : (namesF (evs.take i)).contains (rd_T76 evs (i : Int)).f1 = true
    · rw [if_pos hc]
      rw [if_pos hc] at e
      exact e
    · rw [if_neg hc, if_pos (by omega)]
      rw [if_neg hc] at e
      exact e
theorem rnames_f (evs : List S76) (hl : evs.length ≤ 1000) : Ev (fun k => recantref02_Names.f k evs) (namesF evs) := rnames evs hl evs.length 0 (by omega)

theorem rvar (k : Int) : recantref02_Variable.f k = some (varB k) := by
  unfold recantref02_Variable.f varB
  by_cases h : k = 2 <;> simp [h]
theorem rval (k : Int) : recantref02_Value.f k = some (valB k) := by
  unfold recantref02_Value.f valB
  by_cases h : k = 3 <;> simp [h]
/-- The last step of an event's body. -/
theorem rj2 (E : Nat) (k nm v z x : Int) (s : RSt) : ∃ L, Ev (fun n => recantref04_body.j2 n (E : Int) k nm v z x (atS s) s.bad) (L, atS (if s.bad = 0 ∧ s.pos ≠ E then failS s s.pos 2 else s), (if s.bad = 0 ∧ s.pos ≠ E then failS s s.pos 2 else s).bad) ∧
    ((if s.bad = 0 ∧ s.pos ≠ E then failS s s.pos 2 else s).bad = 0 → L = [⟨k, nm, v, z⟩]) ∧ ((if s.bad = 0 ∧ s.pos ≠ E then failS s s.pos 2 else s).bad ≠ 0 → L = []) := by
  by_cases hb : s.bad = 0
  · by_cases hp : s.pos = E
    · rw [if_neg (fun h => h.2 hp)]
      refine ⟨[⟨k, nm, v, z⟩], ⟨1, fun n hn => ?_⟩, fun _ => rfl, fun h => absurd hb h⟩
      obtain ⟨n, rfl⟩ : ∃ m, n = m + 1 := ⟨n - 1, by omega⟩
      dsimp only
      simp only [recantref04_body.j2]
      rw [if_pos hb, at_ok hb, if_pos hp, hp, hb]
    · rw [if_pos ⟨hb, hp⟩]
      obtain ⟨f1, f2⟩ := at_fail hb s.pos 2 (by decide)
      rw [f1, f2]
      refine ⟨[], ⟨1, fun n hn => ?_⟩, fun h => absurd h (by decide), fun _ => rfl⟩
      obtain ⟨n, rfl⟩ : ∃ m, n = m + 1 := ⟨n - 1, by omega⟩
      dsimp only
      simp only [recantref04_body.j2]
      rw [if_pos hb, at_ok hb, if_neg hp]
  · rw [if_neg (fun h => hb h.1)]
    refine ⟨[], ⟨1, fun n hn => ?_⟩, fun h => absurd h hb, fun _ => rfl⟩
    obtain ⟨n, rfl⟩ : ∃ m, n = m + 1 := ⟨n - 1, by omega⟩
    dsimp only
    simp only [recantref04_body.j2]
    rw [if_neg hb]
/-- What is left of an event's body behind its variable. -/
def restZ (l : List Int) (E : Nat) (k : Int) (s : RSt) : Int × RSt := if valB k then signedS l E s else (0, s)
def lastS (E : Nat) (s : RSt) : RSt := if s.bad = 0 ∧ s.pos ≠ E then failS s s.pos 2 else s
theorem last_was {E : Nat} {s : RSt} (h : (lastS E s).bad = 0) : s.bad = 0 := by
  unfold lastS at h
  split at h
  case isTrue hc => exact hc.1
  case isFalse hc => exact h
theorem rj1 {l : List Int} (hl : ∀ x ∈ l, 0 ≤ x ∧ x ≤ 255) (hlen : l.length ≤ 1000000) (E : Nat) (he : E ≤ l.length) (k nm v x : Int) (s : RSt) : ∃ L, Ev (fun n => recantref04_body.j1 n l (E : Int) k nm v 0 x (atS s) s.bad) (L, atS (lastS E (restZ l E k s).2), (lastS E (restZ l E k s).2).bad) ∧
    ((lastS E (restZ l E k s).2).bad = 0 → L = [⟨k, nm, v, (restZ l E k s).1⟩]) ∧ ((lastS E (restZ l E k s).2).bad ≠ 0 → L = []) := by
  unfold restZ
  cases hv : valB k with
  | true =>
    rw [if_pos rfl]
    obtain ⟨x', y, ⟨K, hK⟩, hz, hy⟩ := rsigned hl hlen E he s x
    obtain ⟨L, ⟨K2, hK2⟩, hL, hL2⟩ := rj2 E k nm v y x' (signedS l E s).2
    refine ⟨L, ⟨max K K2 + 1, fun n hn => ?_⟩, fun h => ?_, fun h => hL2 h⟩
    · obtain ⟨n, rfl⟩ : ∃ m, n = m + 1 := ⟨n - 1, by omega⟩
      have a1 := hK n (by omega)
      have a2 := hK2 n (by omega)
      dsimp only at a1 a2 ⊢
      simp only [recantref04_body.j1]
      rw [rval, Option.bind_some, if_pos hv, a1, Option.bind_some]
      dsimp only
      rw [hz, Option.bind_some, a2]; rfl
    · have hb := last_was h
      rw [← hy hb]
      exact hL h
  | false =>
    rw [if_neg (by simp)]
    obtain ⟨L, ⟨K2, hK2⟩, hL, hL2⟩ := rj2 E k nm v 0 x s
    refine ⟨L, ⟨K2 + 1, fun n hn => ?_⟩, fun h => hL h, fun h => hL2 h⟩
    obtain ⟨n, rfl⟩ : ∃ m, n = m + 1 := ⟨n - 1, by omega⟩
    have a2 := hK2 n (by omega)
    dsimp only at a2 ⊢
    simp only [recantref04_body.j1]
    rw [rval, Option.bind_some, if_neg (by rw [hv]; simp), a2]; rfl
def restV (l : List Int) (E : Nat) (k : Int) (s : RSt) : Int × RSt := if varB k then mostS l E 7 s else (0, s)
theorem most_lt {l : List Int} (hl : ∀ x ∈ l, 0 ≤ x ∧ x ≤ 255) {e t : Nat} (he : e ≤ l.length) {s : RSt} (h : (mostS l e t s).2.bad = 0) : 0 ≤ (mostS l e t s).1 ∧ (mostS l e t s).1 ≤ t := by
  unfold mostS at h ⊢
  split at h
  case isTrue hc =>
    obtain ⟨f1, f2⟩ := at_fail hc.1 s.pos 3 (by decide)
    rw [f2] at h
    exact absurd h (by decide)
  case isFalse hc =>
    rw [if_neg hc]
    obtain ⟨_, h0, _⟩ := num_ok hl he h
    by_cases ht : (t : Int) < (numS l e s).1
    · exact absurd ⟨h, ht⟩ hc
    · exact ⟨h0, by omega⟩
theorem signed_bad {l : List Int} {e : Nat} {s : RSt} (h : s.bad ≠ 0) : signedS l e s = (0, s) := by
  unfold signedS
  rw [num_bad h, zag0, if_neg (by decide)]
theorem most_bad {l : List Int} {e t : Nat} {s : RSt} (h : s.bad ≠ 0) : mostS l e t s = (0, s) := by
  unfold mostS
  rw [num_bad h, if_neg (fun hc => h hc.1)]
theorem restZ_was {l : List Int} {E : Nat} {k : Int} {s : RSt} (h : (restZ l E k s).2.bad = 0) : s.bad = 0 := by
  unfold restZ at h
  split at h
  · exact signed_was h
  · exact h
theorem rj0 {l : List Int} (hl : ∀ x ∈ l, 0 ≤ x ∧ x ≤ 255) (hlen : l.length ≤ 1000000) (E : Nat) (he : E ≤ l.length) (p k nm x : Int) (s : RSt) : ∃ L, Ev (fun n => recantref04_body.j0 n l p (E : Int) false k nm 0 0 x (atS s) s.bad) (L, atS (lastS E (restZ l E k (restV l E k s).2).2), (lastS E (restZ l E k (restV l E k s).2).2).bad) ∧
    ((lastS E (restZ l E k (restV l E k s).2).2).bad = 0 → L = [⟨k, nm, (restV l E k s).1, (restZ l E k (restV l E k s).2).1⟩]) ∧ ((lastS E (restZ l E k (restV l E k s).2).2).bad ≠ 0 → L = []) := by
  unfold restV
  cases hv : varB k with
  | true =>
    rw [if_pos rfl]
    obtain ⟨x', ⟨K, hK⟩, hx⟩ := rmost hl hlen E he 7 s x
    obtain ⟨L, ⟨K2, hK2⟩, hL, hL2⟩ := rj1 hl hlen E he k nm (wrap64 x') x' (mostS l E 7 s).2
    refine ⟨L, ⟨max K K2 + 1, fun n hn => ?_⟩, fun h => ?_, fun h => hL2 h⟩
    · obtain ⟨n, rfl⟩ : ∃ m, n = m + 1 := ⟨n - 1, by omega⟩
      have a1 := hK n (by omega)
      have a2 := hK2 n (by omega)
      dsimp only at a1 a2 ⊢
      rw [show ((7 : Nat) : Int) = 7 from rfl] at a1
      simp only [recantref04_body.j0]
      rw [if_neg (by simp), rvar, Option.bind_some, if_pos hv, a1, Option.bind_some]
      exact a2
    · have hb := restZ_was (last_was h)
      obtain ⟨h0, h1⟩ := most_lt hl he hb
      have := hL h
      rw [hx hb, w64 (by omega) (by omega)] at this
      exact this
  | false =>
    rw [if_neg (by simp)]
    obtain ⟨L, ⟨K2, hK2⟩, hL, hL2⟩ := rj1 hl hlen E he k nm 0 x s
    refine ⟨L, ⟨K2 + 1, fun n hn => ?_⟩, fun h => hL h, fun h => hL2 h⟩
    obtain ⟨n, rfl⟩ : ∃ m, n = m + 1 := ⟨n - 1, by omega⟩
    have a2 := hK2 n (by omega)
    dsimp only at a2 ⊢
    simp only [recantref04_body.j0]
    rw [if_neg (by simp), rvar, Option.bind_some, if_neg (by rw [hv]; simp)]
    exact a2
theorem body_eq (l : List Int) (E : Nat) (k : Int) (s : RSt) (evs : List S76) : bodyS l E k s evs = (lastS E (restZ l E k (restV l E k (if (mostS l E 9999 ⟨s.pos + 1, s.bad, s.wh⟩).2.bad = 0 ∧ seventhB evs (mostS l E 9999 ⟨s.pos + 1, s.bad, s.wh⟩).1 = true then failS (mostS l E 9999 ⟨s.pos + 1, s.bad, s.wh⟩).2 (s.pos + 1) 5 else (mostS l E 9999 ⟨s.pos + 1, s.bad, s.wh⟩).2)).2).2,
    ⟨k, (mostS l E 9999 ⟨s.pos + 1, s.bad, s.wh⟩).1, (restV l E k (if (mostS l E 9999 ⟨s.pos + 1, s.bad, s.wh⟩).2.bad = 0 ∧ seventhB evs (mostS l E 9999 ⟨s.pos + 1, s.bad, s.wh⟩).1 = true then failS (mostS l E 9999 ⟨s.pos + 1, s.bad, s.wh⟩).2 (s.pos + 1) 5 else (mostS l E 9999 ⟨s.pos + 1, s.bad, s.wh⟩).2)).1, (restZ l E k (restV l E k (if (mostS l E 9999 ⟨s.pos + 1, s.bad, s.wh⟩).2.bad = 0 ∧ seventhB evs (mostS l E 9999 ⟨s.pos + 1, s.bad, s.wh⟩).1 = true then failS (mostS l E 9999 ⟨s.pos + 1, s.bad, s.wh⟩).2 (s.pos + 1) 5 else (mostS l E 9999 ⟨s.pos + 1, s.bad, s.wh⟩).2)).2).1⟩) := rfl
theorem later_bad (l : List Int) (E : Nat) (k : Int) {s : RSt} (h : s.bad ≠ 0) : lastS E (restZ l E k (restV l E k s).2).2 = s := by
  have h1 : (restV l E k s).2 = s := by
    unfold restV; split
    · rw [most_bad h]
    · rfl
  have h2 : (restZ l E k s).2 = s := by
    unfold restZ; split
    · rw [signed_bad h]
    · rfl
  rw [h1, h2]
  unfold lastS
  rw [if_neg (fun hc => h hc.1)]
theorem rbody {l : List Int} (hl : ∀ x ∈ l, 0 ≤ x ∧ x ≤ 255) (hlen : l.length ≤ 1000000) (E : Nat) (he : E ≤ l.length) (p : Nat) (hp : p < l.length) (wh : Int) (evs : List S76) (hev : evs.length ≤ 100) (hk : rd l (p : Int) < 10) :
    ∃ L, Ev (fun n => recantref04_body.f n l (p : Int) (E : Int) evs) (L, atS (bodyS l E (rd l (p : Int)) ⟨p, 0, wh⟩ evs).1, (bodyS l E (rd l (p : Int)) ⟨p, 0, wh⟩ evs).1.bad) ∧ ((bodyS l E (rd l (p : Int)) ⟨p, 0, wh⟩ evs).1.bad = 0 → L = [(bodyS l E (rd l (p : Int)) ⟨p, 0, wh⟩ evs).2]) ∧ ((bodyS l E (rd l (p : Int)) ⟨p, 0, wh⟩ evs).1.bad ≠ 0 → L = []) := by
  have hkb := hl _ (rd_memG (l := l) (i := (p : Int)) (by omega) (by omega))
  rw [body_eq]
  obtain ⟨k, hke⟩ : ∃ k, k = rd l (p : Int) := ⟨_, rfl⟩
  rw [← hke] at hkb hk ⊢
  dsimp only
  obtain ⟨x, ⟨K, hK⟩, hx⟩ := rmost hl hlen E he 9999 ⟨(p : Int) + 1, 0, wh⟩ 0
  have hml := @most_lt l hl E 9999 he ⟨(p : Int) + 1, 0, wh⟩
  obtain ⟨nm, s2, hm⟩ : ∃ nm s2, mostS l E 9999 ⟨(p : Int) + 1, 0, wh⟩ = (nm, s2) := ⟨_, _, rfl⟩
  rw [hm] at hK hx hml ⊢
  dsimp only at hK hx hml ⊢
  obtain ⟨KN, hKN⟩ := rnames_f evs (by omega)
  have hnl := names_len evs
  -- what comes first
  have hf : ∀ n, K ≤ n → KN ≤ n → recantref04_body.f n l (p : Int) (E : Int) evs = (if s2.bad = 0 then (if ((namesF evs).length : Int) = 6 then ((recantref02_Has.f n (namesF evs) (wrap64 x)).bind fun t333 => (recantref04_body.j0 n l p E (!t333) k (wrap64 x) 0 0 x (atS s2) s2.bad)) else (recantref04_body.j0 n l p E false k (wrap64 x) 0 0 x (atS s2) s2.bad)) else (recantref04_body.j0 n l p E false k (wrap64 x) 0 0 x (atS s2) s2.bad)) := by
    intro n h1 h2
    have a1 := hK n h1
    have a2 := hKN n h2
    rw [show atS ⟨(p : Int) + 1, 0, wh⟩ = (p : Int) + 1 from rfl, show ((9999 : Nat) : Int) = 9999 from rfl] at a1
    dsimp only at a2
    unfold recantref04_body.f
    rw [if_pos (by omega), if_pos (by omega), ← hke, w64 (x := k) (by omega) (by omega), if_neg (by omega), w64 (x := (p : Int) + 1) (by omega) (by omega), a1, Option.bind_some, a2, Option.bind_some]
  by_cases hb2 : s2.bad = 0
  · have hx := hx hb2
    obtain ⟨hm0, hm1⟩ := hml hb2
    have hwx : wrap64 x = nm := by rw [hx, w64 (by omega) (by omega)]
    rw [hwx] at hf
    by_cases h6 : (namesF evs).length = 6
    · obtain ⟨KH, hKH⟩ := rhas_f (namesF evs) nm (by omega)
      cases hc : (namesF evs).contains nm with
      | true =>
        rw [hc] at hKH
        have h7 : seventhB evs nm = false := by unfold seventhB; rw [hc]; simp
        rw [if_neg (by rw [h7]; simp)]
        obtain ⟨L, ⟨K3, hK3⟩, hL, hL2⟩ := rj0 hl hlen E he (p : Int) k nm x s2
        refine ⟨L, ⟨max (max K KN) (max KH K3), fun n hn => ?_⟩, hL, hL2⟩
        have a3 := hKH n (by omega)
        have a4 := hK3 n (by omega)
        dsimp only at a3 a4 ⊢
        rw [hf n (by omega) (by omega), if_pos hb2, if_pos (by omega), a3, Option.bind_some]
        exact a4
      | false =>
        rw [hc] at hKH
        have h7 : seventhB evs nm = true := by unfold seventhB; rw [hc, h6]; rfl
        rw [if_pos ⟨hb2, h7⟩]
        obtain ⟨f1, f2⟩ := at_fail hb2 ((p : Int) + 1) 5 (by decide)
        rw [later_bad l E k (by rw [f2]; decide), f1, f2]
        refine ⟨[], ⟨max (max K KN) KH + 1, fun n hn => ?_⟩, fun h => absurd h (by decide), fun _ => rfl⟩
        obtain ⟨n, rfl⟩ : ∃ m, n = m + 1 := ⟨n - 1, by omega⟩
        have a3 := hKH (n + 1) (by omega)
        dsimp only at a3 ⊢
        rw [hf (n + 1) (by omega) (by omega), if_pos hb2, if_pos (by omega), a3, Option.bind_some]
        simp only [recantref04_body.j0]
        rw [if_pos (by simp), w64 (by omega) (by omega)]
    · have h7 : seventhB evs nm = false := by unfold seventhB; rw [decide_eq_false h6]; rfl
      rw [if_neg (by rw [h7]; simp)]
      obtain ⟨L, ⟨K3, hK3⟩, hL, hL2⟩ := rj0 hl hlen E he (p : Int) k nm x s2
      refine ⟨L, ⟨max (max K KN) K3, fun n hn => ?_⟩, hL, hL2⟩
      have a4 := hK3 n (by omega)
      dsimp only at a4 ⊢
      rw [hf n (by omega) (by omega), if_pos hb2, if_neg (by omega)]
      exact a4
  · rw [if_neg (fun h => hb2 h.1), later_bad l E k hb2]
    obtain ⟨L, ⟨K3, hK3⟩, hL, hL2⟩ := rj0 hl hlen E he (p : Int) k (wrap64 x) x s2
    rw [later_bad l E k hb2] at hK3 hL2
    refine ⟨L, ⟨max (max K KN) K3, fun n hn => ?_⟩, fun h => absurd h hb2, fun h => hL2 h⟩
    have a4 := hK3 n (by omega)
    dsimp only at a4 ⊢
    rw [hf n (by omega) (by omega), if_neg hb2]
    exact a4

theorem revent {l : List Int} (hl : ∀ x ∈ l, 0 ≤ x ∧ x ≤ 255) (hlen : l.length ≤ 1000000) (p wh : Int) (evs : List S76) (hev : evs.length ≤ 100) :
    ∃ L, Ev (fun n => recantref04_event.f n l p evs) (L, atS (evS l ⟨p, 0, wh⟩ evs).1, (evS l ⟨p, 0, wh⟩ evs).1.bad) ∧ ((evS l ⟨p, 0, wh⟩ evs).1.bad = 0 → (evS l ⟨p, 0, wh⟩ evs).2 = evs ++ L) ∧ ((evS l ⟨p, 0, wh⟩ evs).1.bad ≠ 0 → L = []) ∧ L.length ≤ 1 := by
  obtain ⟨x, ⟨K, hK⟩, hx⟩ := rnum hl hlen l.length (Nat.le_refl _) ⟨p, 0, wh⟩ 0
  have hok := @num_ok l hl l.length (Nat.le_refl _) ⟨p, 0, wh⟩
  rw [show atS ⟨p, 0, wh⟩ = p from rfl] at hK
  unfold evS
  obtain ⟨m, s1, hn⟩ : ∃ m s1, numS l l.length ⟨p, 0, wh⟩ = (m, s1) := ⟨_, _, rfl⟩
  rw [hn] at hK hx hok ⊢
  dsimp only at hK hx hok ⊢
  by_cases hb : s1.bad = 0
  · obtain ⟨hp0, hm0, hm1, hp1, hp2⟩ := hok hb
    have hx := hx hb
    subst hx
    rw [if_neg (fun h => h hb)]
    have hw : IntKind.u64.wrap (wrap64 ((l.length : Int) - s1.pos)) = (l.length : Int) - s1.pos := by rw [w64 (by omega) (by omega), wu64 (by omega) (by omega)]
    have hat : atS s1 = s1.pos := at_ok hb
    by_cases hgt : (l.length : Int) - s1.pos < x
    · rw [if_pos hgt]
      obtain ⟨f1, f2⟩ := at_fail hb (l.length : Int) 4 (by decide)
      dsimp only
      rw [f1, f2]
      refine ⟨[], ⟨K, fun n hn => ?_⟩, fun h => absurd h (by decide), fun _ => rfl, Nat.zero_le _⟩
      have a1 := hK n hn
      dsimp only
      unfold recantref04_event.f
      rw [a1, Option.bind_some]
      dsimp only
      rw [if_pos hb, hat, hw, if_pos hgt]
    · rw [if_neg hgt]
      by_cases hz : x = 0
      · rw [if_pos hz]
        obtain ⟨f1, f2⟩ := at_fail hb p 2 (by decide)
        dsimp only
        rw [f1, f2]
        refine ⟨[], ⟨K, fun n hn => ?_⟩, fun h => absurd h (by decide), fun _ => rfl, Nat.zero_le _⟩
        have a1 := hK n hn
        dsimp only
        unfold recantref04_event.f
        rw [a1, Option.bind_some]
        dsimp only
        rw [if_pos hb, hat, hw, if_neg hgt, if_pos hz]
      · rw [if_neg hz]
        obtain ⟨pos1, bad1, wh1⟩ := s1
        dsimp only at hb hp1 hp2 hat hw hgt hK ⊢
        subst hb
        obtain ⟨q, rfl⟩ := Int.eq_ofNat_of_zero_le (show 0 ≤ pos1 by omega)
        obtain ⟨E, hE⟩ : ∃ E : Nat, E = ((q : Int) + x).toNat := ⟨_, rfl⟩
        have hEi : wrap64 ((q : Int) + wrap64 x) = (E : Int) := by rw [w64 (x := x) (by omega) (by omega), w64 (by omega) (by omega)]; omega
        have hpre : ∀ n, K ≤ n → recantref04_event.f n l p evs = (recantref04_body.f n l (q : Int) (E : Int) evs).bind fun bt351 => (some (bt351.1, bt351.2.1, bt351.2.2)) := by
          intro n hn
          have a1 := hK n hn
          unfold recantref04_event.f
          rw [a1, Option.bind_some]
          dsimp only
          rw [if_pos rfl, hat, hw, if_neg hgt, if_neg hz, hEi]
        have hk := hl _ (rd_memG (l := l) (i := (q : Int)) (by omega) (by omega))
        by_cases hk10 : 10 ≤ rd l (q : Int)
        · rw [if_pos hk10]
          obtain ⟨f1, f2⟩ := at_fail (s := ⟨(q : Int), 0, wh1⟩) rfl (q : Int) 2 (by decide)
          dsimp only
          rw [f1, f2]
          refine ⟨[], ⟨K, fun n hn => ?_⟩, fun h => absurd h (by decide), fun _ => rfl, Nat.zero_le _⟩
          dsimp only
          rw [hpre n hn]
          unfold recantref04_body.f
          rw [if_pos (by omega), if_pos (by omega), w64 (x := rd l (q : Int)) (by omega) (by omega), if_pos (by omega), Option.bind_some]
        · rw [if_neg hk10, ← hE]
          obtain ⟨L, ⟨K2, hK2⟩, hL, hL2⟩ := rbody hl hlen E (by omega) q (by omega) wh1 evs hev (by omega)
          refine ⟨L, ⟨max K K2, fun n hn => ?_⟩, fun h => by rw [hL h], hL2, ?_⟩
          · have a2 := hK2 n (by omega)
            dsimp only at a2 ⊢
            rw [hpre n (by omega), a2, Option.bind_some]
          · by_cases hbb : (bodyS l E (rd l (q : Int)) ⟨(q : Int), 0, wh1⟩ evs).1.bad = 0
            · rw [hL hbb]; simp
            · rw [hL2 hbb]; simp
  · rw [if_pos hb]
    refine ⟨[], ⟨K, fun n hn => ?_⟩, fun h => absurd h hb, fun _ => rfl, Nat.zero_le _⟩
    have a1 := hK n hn
    dsimp only
    unfold recantref04_event.f
    rw [a1, Option.bind_some]
    dsimp only
    rw [if_neg hb]
def finS (l : List Int) (p : RSt × List S76) : RSt × List S76 := (if (decide (p.1.bad = 0) && decide (p.1.pos ≠ (l.length : Int))) = true then failS p.1 p.1.pos 2 else p.1, p.2)
theorem tell_bad (l : List Int) {p : RSt × List S76} (h : p.1.bad ≠ 0) : tellS (finS l p) = ([], p.1.wh, p.1.bad) := by
  have hf : finS l p = (p.1, p.2) := by unfold finS; rw [if_neg (by simp [h])]
  rw [hf]
  exact if_neg h
theorem loop_bad (l : List Int) (d : Nat) {s : RSt} (evs : List S76) (h : s.bad ≠ 0) : loopS l d s evs = (s, evs) := by
  cases d with
  | zero => rfl
  | succ d => unfold loopS; rw [if_neg h]
theorem rloop {l : List Int} (hl : ∀ x ∈ l, 0 ≤ x ∧ x ≤ 255) (hlen : l.length ≤ 1000000) (N : Nat) (hN : N ≤ 60) (y z : Int) (d : Nat) : ∀ (i : Nat) (s : RSt) (evs : List S76), i + d = N → s.bad = 0 → evs.length ≤ i →
    Ev (fun k => recantref04_Parse.l0 k l evs s.pos (i : Int) (N : Int) y z) (tellS (finS l (loopS l d s evs))) := by
  induction d with
  | zero =>
    intro i s evs hi hb hle
    refine ⟨1, fun k hk => ?_⟩
    obtain ⟨k, rfl⟩ : ∃ m, k = m + 1 := ⟨k - 1, by omega⟩
    simp only [recantref04_Parse.l0, loopS]
    rw [if_neg (by rw [w64 (by omega) (by omega)]; omega)]
    by_cases hp : s.pos = (l.length : Int)
    · have hf : finS l (s, evs) = (s, evs) := by unfold finS; rw [if_neg (by simp [hp])]
      have ht : tellS (s, evs) = (evs, 0, 0) := if_pos hb
      rw [hf, ht, if_pos hp]
    · have hf : finS l (s, evs) = (⟨s.pos, 2, s.pos⟩, evs) := by unfold finS; rw [if_pos (by simp [hp, hb])]; unfold failS; rw [if_pos hb]
      have ht : tellS ((⟨s.pos, 2, s.pos⟩ : RSt), evs) = ([], s.pos, 2) := if_neg (show ¬ (2 : Int) = 0 by decide)
      rw [hf, ht, if_neg hp]
  | succ d ih =>
    intro i s evs hi hb hle
    obtain ⟨ps, bs, wh⟩ := s
    dsimp only at hb
    subst hb
    obtain ⟨L, ⟨K, hK⟩, hL, hL2, hL1⟩ := revent hl hlen ps wh evs (by omega)
    have hst : loopS l (d + 1) ⟨ps, 0, wh⟩ evs = loopS l d (evS l ⟨ps, 0, wh⟩ evs).1 (evS l ⟨ps, 0, wh⟩ evs).2 := by
      conv => lhs; unfold loopS
      rw [if_pos rfl]
    rw [hst]
    obtain ⟨s', evs', he⟩ : ∃ s' evs', evS l ⟨ps, 0, wh⟩ evs = (s', evs') := ⟨_, _, rfl⟩
    rw [he] at hK hL hL2 ⊢
    dsimp only at hK hL hL2 ⊢
    by_cases hb' : s'.bad = 0
    · have hL := hL hb'
      subst hL
      obtain ⟨K2, hK2⟩ := ih (i + 1) s' (evs ++ L) (by omega) hb' (by rw [List.length_append]; omega)
      refine ⟨max K K2 + 1, fun k hk => ?_⟩
      obtain ⟨k, rfl⟩ : ∃ m, k = m + 1 := ⟨k - 1, by omega⟩
      have a1 := hK k (by omega)
      have a2 := hK2 k (by omega)
      dsimp only at a2
      simp only [recantref04_Parse.l0]
      rw [if_pos (by rw [w64 (by omega) (by omega)]; omega), a1, Option.bind_some]
      dsimp only
      rw [if_pos hb', if_pos (by omega), at_ok hb', w64 (by omega) (by omega), show ((i : Int) + 1) = ((i + 1 : Nat) : Int) by omega]
      exact a2
    · rw [loop_bad l d evs' hb', tell_bad l hb']
      refine ⟨K + 1, fun k hk => ?_⟩
      obtain ⟨k, rfl⟩ : ∃ m, k = m + 1 := ⟨k - 1, by omega⟩
      have a1 := hK k (by omega)
      simp only [recantref04_Parse.l0]
      rw [if_pos (by rw [w64 (by omega) (by omega)]; omega), a1, Option.bind_some]
      dsimp only
      rw [if_neg hb', hL2 hb', at_bad hb']
theorem parse_eq (l : List Int) : parseS l = finS l (loopS l (numS l l.length ⟨0, 0, 0⟩).1.toNat (if (decide ((numS l l.length ⟨0, 0, 0⟩).2.bad = 0) && decide (60 < (numS l l.length ⟨0, 0, 0⟩).1)) = true then failS (numS l l.length ⟨0, 0, 0⟩).2 0 5 else (numS l l.length ⟨0, 0, 0⟩).2) []) := rfl
theorem rparse {l : List Int} (hl : ∀ x ∈ l, 0 ≤ x ∧ x ≤ 255) (hlen : l.length ≤ 1000000) : Ev (fun k => recantref04_Parse.f k l) (tellS (parseS l)) := by
  rw [parse_eq]
  obtain ⟨x, ⟨K, hK⟩, hx⟩ := rnum hl hlen l.length (Nat.le_refl _) ⟨0, 0, 0⟩ 0
  have hok := @num_ok l hl l.length (Nat.le_refl _) ⟨0, 0, 0⟩
  rw [show atS ⟨0, 0, 0⟩ = 0 from rfl] at hK
  obtain ⟨m, s1, hn⟩ : ∃ m s1, numS l l.length ⟨0, 0, 0⟩ = (m, s1) := ⟨_, _, rfl⟩
  rw [hn] at hK hx hok ⊢
  dsimp only at hK hx hok ⊢
  by_cases hb : s1.bad = 0
  · have hx := hx hb
    subst hx
    obtain ⟨_, hm0, hm1, _⟩ := hok hb
    obtain ⟨N, rfl⟩ := Int.eq_ofNat_of_zero_le hm0
    rw [Int.toNat_natCast]
    by_cases h60 : (60 : Int) < (N : Int)
    · rw [if_pos (by simp only [hb, h60, decide_true, Bool.and_self])]
      obtain ⟨f1, f2⟩ := at_fail hb 0 5 (by decide)
      have hbad : (failS s1 0 5).bad ≠ 0 := by rw [f2]; decide
      rw [loop_bad l N [] hbad, tell_bad l hbad]
      dsimp only
      rw [f2, ← at_bad hbad, f1]
      refine ⟨K, fun k hk => ?_⟩
      have a1 := hK k hk
      dsimp only
      unfold recantref04_Parse.f
      rw [a1, Option.bind_some]
      dsimp only
      rw [if_pos hb, if_pos h60]
    · rw [if_neg (by simp only [h60, decide_false, Bool.and_false]; simp)]
      obtain ⟨K2, hK2⟩ := rloop hl hlen N (by omega) s1.pos s1.bad N 0 s1 [] (by omega) hb (Nat.le_refl _)
      refine ⟨max K K2, fun k hk => ?_⟩
      have a1 := hK k (by omega)
      have a2 := hK2 k (by omega)
      dsimp only at a2 ⊢
      unfold recantref04_Parse.f
      rw [a1, Option.bind_some]
      dsimp only
      rw [if_pos hb, if_neg (by omega), at_ok hb]
      exact a2
  · rw [if_neg (by simp [hb]), loop_bad l _ [] hb, tell_bad l hb]
    refine ⟨K, fun k hk => ?_⟩
    have a1 := hK k hk
    dsimp only
    unfold recantref04_Parse.f
    rw [a1, Option.bind_some]
    dsimp only
    rw [if_neg hb, at_bad hb]
theorem rsame (a : List S76) (hl : a.length ≤ 1000) (d : Nat) : ∀ i : Nat, i + d = a.length → Ev (fun k => recantref02_Same.l0 k a a (a.length : Int) (i : Int)) true := by
  induction d with
  | zero =>
    intro i hi
    refine ⟨1, fun k hk => ?_⟩
    obtain ⟨k, rfl⟩ : ∃ m, k = m + 1 := ⟨k - 1, by omega⟩
    simp only [recantref02_Same.l0]
    rw [if_neg (by omega)]
  | succ d ih =>
    intro i hi
    obtain ⟨K, e⟩ := ih (i + 1) (by omega)
    refine ⟨K + 1, fun k hk => ?_⟩
    obtain ⟨k, rfl⟩ : ∃ m, k = m + 1 := ⟨k - 1, by omega⟩
    have e := e k (by omega)
    dsimp only at e
    simp only [recantref02_Same.l0]
    rw [if_pos (by omega), if_pos (by omega), if_pos (by omega), if_pos (by omega), if_neg (by simp), w64 (by omega) (by omega), show ((i : Int) + 1) = ((i + 1 : Nat) : Int) by omega]
    exact e
theorem loop_len (l : List Int) (d : Nat) : ∀ (s : RSt) (evs : List S76), (loopS l d s evs).2.length ≤ evs.length + d := by
  induction d with
  | zero => intro s evs; exact Nat.le_refl _
  | succ d ih =>
    intro s evs
    unfold loopS
    split
    · have := ih (evS l s evs).1 (evS l s evs).2
      have h2 := evS_len l s evs
      omega
    · simp
theorem alive04 : recantlaw04_alive.f = some true := by decide +kernel
theorem parse_len {l : List Int} (hl : ∀ x ∈ l, 0 ≤ x ∧ x ≤ 255) : (tellS (parseS l)).1.length ≤ 60 := by
  rw [parse_eq]
  have hok := @num_ok l hl l.length (Nat.le_refl _) ⟨0, 0, 0⟩
  obtain ⟨m, s1, hn⟩ : ∃ m s1, numS l l.length ⟨0, 0, 0⟩ = (m, s1) := ⟨_, _, rfl⟩
  rw [hn] at hok ⊢
  dsimp only at hok ⊢
  have hgo : ∀ p : RSt × List S76, (p.1.bad = 0 → p.2.length ≤ 60) → (tellS (finS l p)).1.length ≤ 60 := by
    intro p hp
    by_cases hb : p.1.bad = 0
    · unfold tellS
      split
      · exact hp hb
      · exact Nat.zero_le _
    · rw [tell_bad l hb]; exact Nat.zero_le _
  by_cases hb : s1.bad = 0
  · by_cases h60 : (60 : Int) < m
    · rw [if_pos (by simp only [hb, h60, decide_true, Bool.and_self])]
      have hbad : (failS s1 0 5).bad ≠ 0 := by rw [(at_fail hb 0 5 (by decide)).2]; decide
      rw [loop_bad l _ [] hbad]
      exact hgo _ (fun h => absurd h hbad)
    · rw [if_neg (by simp only [h60, decide_false, Bool.and_false]; simp)]
      have := loop_len l m.toNat s1 []
      refine hgo _ (fun _ => ?_)
      simp at this
      omega
  · rw [if_neg (by simp [hb]), loop_bad l _ [] hb]
    exact hgo _ (fun h => absurd h hb)
theorem BinaryReads : recantlaw04_BinaryReads.Pure := by
  intro l _ _ hw
  have hmn : (mn (l.length : Int) 900).toNat ≤ 900 ∧ 0 ≤ mn (l.length : Int) 900 ∧ mn (l.length : Int) 900 ≤ l.length := by unfold mn; split <;> omega
  obtain ⟨b, hb⟩ : ∃ b, b = l.take (mn (l.length : Int) 900).toNat := ⟨_, rfl⟩
  have hbl : ∀ x ∈ b, 0 ≤ x ∧ x ≤ 255 := fun x hx => bounds_u8 (hw x (List.mem_of_mem_take (by rw [← hb]; exact hx)))
  have hblen : b.length ≤ 900 := by rw [hb, List.length_take]; omega
  have hf : binary_Parse.f b = some (tellS (parseS b)) := by
    unfold binary_Parse.f
    rw [if_pos]
    refine ⟨by omega, ?_⟩
    rw [List.all_eq_true]
    intro x hx
    have := hbl x hx
    simp; omega
  obtain ⟨K, e⟩ := rparse hbl (by omega)
  have hln := parse_len hbl
  obtain ⟨K2, e2⟩ := rsame (tellS (parseS b)).1 (by omega) (tellS (parseS b)).1.length 0 (by omega)
  refine ⟨max K K2, ?_⟩
  have e := e (max K K2) (by omega)
  have e2 := e2 (max K K2) (by omega)
  dsimp only at e e2
  unfold recantlaw04_BinaryReads.f
  rw [if_pos hmn.2.1, if_pos hmn.2.2, Option.bind_some, ← hb, hf, Option.bind_some, e, Option.bind_some, alive04, Option.bind_some, if_pos rfl, if_pos rfl, if_pos rfl]
  unfold recantref02_Same.f
  rw [if_pos rfl]
  rw [show ((0 : Nat) : Int) = 0 from rfl] at e2
  rw [e2]; rfl
end Go.Proofs.Ythkpocgbinmeiaa.Pure

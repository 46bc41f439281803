/- Bytes of events, read and printed, plainly: each undoes the other. -/
import Derived.Test.YthkpocgbinmeiaaDoorUBinO
import Derived.Test.YthkpocgbinmeiaaDoorUGetO
import Derived.Test.YthkpocgbinmeiaaDoorGParse
import Derived.Test.YthkpocgbinmeiaaDoorP5
import Derived.Laws.BitsLemmas
namespace Go.Proofs.YthkpocgbinmeiaaDoor.U
set_option linter.unusedVariables false
set_option linter.unusedSimpArgs false
open Go Go.RowKit Go.Proofs.YthkpocgbinmeiaaDoor.P Go.Proofs.YthkpocgbinmeiaaDoorW.PrintWords Go.Proofs.YthkpocgbinmeiaaDoorW.PrintLast Go.Proofs.YthkpocgbinmeiaaDoorW.PrintMore

/-- A row stands at a place. -/
def At (l : List Int) (p : Nat) (xs : List Int) : Prop := ∃ r, l.drop p = xs ++ r
theorem At.app {l : List Int} {p : Nat} {xs ys : List Int} : At l p (xs ++ ys) ↔ At l p xs ∧ At l (p + xs.length) ys := by
  constructor
  · rintro ⟨r, h⟩
    refine ⟨⟨ys ++ r, by rw [h, List.append_assoc]⟩, ⟨r, ?_⟩⟩
    rw [← List.drop_drop, h, List.append_assoc, List.drop_left]
  · rintro ⟨⟨r1, h1⟩, ⟨r2, h2⟩⟩
    refine ⟨r2, ?_⟩
    rw [← List.drop_drop, h1, List.drop_left] at h2
    rw [h1, h2, List.append_assoc]
theorem At.head {l : List Int} {p : Nat} {c : Int} {xs : List Int} (h : At l p (c :: xs)) : p < l.length ∧ rd l (p : Int) = c ∧ At l (p + 1) xs := by
  have hp : p < l.length := by
    obtain ⟨r, h⟩ := h
    rcases Nat.lt_or_ge p l.length with h1 | h1
    · exact h1
    · rw [List.drop_of_length_le h1] at h; simp at h
  have h2 : At l p ([c] ++ xs) := h
  refine ⟨hp, ?_, (At.app.1 h2).2⟩
  obtain ⟨r, h⟩ := h
  rw [List.drop_eq_getElem_cons hp] at h
  simp only [List.cons_append, List.cons.injEq] at h
  unfold rd
  rw [Int.toNat_natCast, List.getD_eq_getElem?_getD, List.getElem?_eq_getElem hp, ← h.1]; rfl
theorem At.one {l : List Int} {p : Nat} (h : p < l.length) : At l p [rd l (p : Int)] := by
  refine ⟨l.drop (p + 1), ?_⟩
  rw [List.drop_eq_getElem_cons h]
  unfold rd
  rw [Int.toNat_natCast, List.getD_eq_getElem?_getD, List.getElem?_eq_getElem h]; rfl
theorem At.len {l : List Int} {p : Nat} {xs : List Int} (h : At l p xs) (hp : p ≤ l.length) : p + xs.length ≤ l.length := by
  obtain ⟨r, h⟩ := h
  have := congrArg List.length h
  rw [List.length_drop, List.length_append] at this
  omega
theorem At.nil {l : List Int} {p : Nat} : At l p [] := ⟨l.drop p, rfl⟩
theorem At.untake {l : List Int} {p e : Nat} {xs : List Int} (h : At l p xs) (he : p + xs.length ≤ e) : At (l.take e) p xs := by
  obtain ⟨r, h⟩ := h
  refine ⟨r.take (e - p - xs.length), ?_⟩
  rw [List.drop_take, h, List.take_append, List.take_of_length_le (by omega)]
theorem At.oftake {l : List Int} {p e : Nat} {xs : List Int} (h : At (l.take e) p xs) : At l p xs := by
  obtain ⟨r, h⟩ := h
  rw [List.drop_take] at h
  refine ⟨r ++ (l.drop p).drop (e - p), ?_⟩
  rw [← List.append_assoc, ← h, List.take_append_drop]
theorem put_pos (m : Nat) : 1 ≤ (putN m).length := by
  unfold putN
  split <;> simp
theorem putN_lt {m : Nat} (h : m < 128) : putN m = [(m : Int)] := by
  unfold putN
  rw [dif_pos (by omega), show m % 128 = m by omega]
theorem putN_ge {m : Nat} (h : 128 ≤ m) : putN m = ((m % 128 + 128 : Nat) : Int) :: putN (m / 128) := by
  conv => lhs; unfold putN
  rw [dif_neg (by omega)]
theorem pow7 (k : Nat) : (2 : Int) ^ (7 * (k + 1)) = 2 ^ (7 * k) * 128 := by rw [Nat.mul_add, Int.pow_add]; rfl
theorem getG_put (l : List Int) (i : Nat) (d : Nat) : ∀ (kk m : Nat) (n : Int), kk ≤ 9 → i + kk + d = l.length → At l (i + kk) (putN m) → (0 < kk → m ≠ 0) → (m : Int) * 2 ^ (7 * kk) < 18446744073709551616 →
    getG l i d kk n = (n + (m : Int) * 2 ^ (7 * kk), ((i + kk + (putN m).length : Nat) : Int), 0) := by
  induction d with
  | zero =>
    intro kk m n hk hd hat hm0 hm
    have h1 := hat.len (by omega)
    have h2 := put_pos m
    omega
  | succ d ih =>
    intro kk m n hk hd hat hm0 hm
    rw [getG_succ]
    by_cases hlt : m < 128
    · rw [putN_lt hlt] at hat ⊢
      obtain ⟨_, hrd, _⟩ := hat.head
      rw [hrd]
      have h9 : ¬ (kk = 9 ∧ 1 < (m : Int)) := by
        rintro ⟨rfl, h1⟩
        simp only [Nat.reduceMul, Int.reducePow] at hm
        omega
      rw [if_neg h9, if_neg (fun h => hm0 h.1 (by omega)), if_pos (by omega), show ((m : Int) % 128) = m by omega]
      simp
    · have hge : 128 ≤ m := by omega
      rw [putN_ge hge] at hat ⊢
      obtain ⟨_, hrd, hnext⟩ := hat.head
      rw [hrd]
      have hk8 : kk ≤ 8 := by
        rcases Nat.lt_or_ge kk 9 with h | h
        · omega
        · obtain rfl : kk = 9 := by omega
          simp only [Nat.reduceMul, Int.reducePow] at hm
          omega
      rw [if_neg (by omega), if_neg (by omega), if_neg (by omega)]
      have hmod : ((m % 128 + 128 : Nat) : Int) % 128 = ((m % 128 : Nat) : Int) := by omega
      rw [hmod]
      have hsum : ((m % 128 : Nat) : Int) * 2 ^ (7 * kk) + ((m / 128 : Nat) : Int) * 2 ^ (7 * (kk + 1)) = (m : Int) * 2 ^ (7 * kk) := by
        rw [pow7]
        have : (m : Int) = ((m % 128 : Nat) : Int) + 128 * ((m / 128 : Nat) : Int) := by omega
        conv => rhs; rw [this]
        rw [Int.add_mul]
        congr 1
        rw [Int.mul_comm (2 ^ (7 * kk)) 128, ← Int.mul_assoc, Int.mul_comm ((m / 128 : Nat) : Int) 128]
      have hp : (0 : Int) ≤ 2 ^ (7 * kk) := Int.pow_nonneg (by decide)
      have hnn : 0 ≤ ((m % 128 : Nat) : Int) * 2 ^ (7 * kk) := Int.mul_nonneg (by omega) hp
      rw [ih (kk + 1) (m / 128) _ (by omega) (by omega) hnext (fun _ => by omega) (by omega)]
      simp only [Prod.mk.injEq, and_true]
      refine ⟨by omega, ?_⟩
      rw [List.length_cons]
      omega
theorem getS_put {l : List Int} {p m : Nat} (hp : p ≤ l.length) (hat : At l p (putN m)) (hm : m < 18446744073709551616) : getS l (p : Int) = ((m : Int), ((p + (putN m).length : Nat) : Int), 0) := by
  unfold getS
  rw [if_neg (by omega), Int.toNat_natCast, getG_put l p (l.length - p) 0 m 0 (by omega) (by omega) hat (fun h => by omega) (by simp; omega)]
  simp
theorem getG_inv (l : List Int) (hl : ∀ x ∈ l, 0 ≤ x ∧ x ≤ 255) (i : Nat) (d : Nat) : ∀ (kk : Nat) (n : Int), kk ≤ 9 → i + kk + d = l.length → (getG l i d kk n).2.2 = 0 →
    ∃ m : Nat, (getG l i d kk n).1 = n + (m : Int) * 2 ^ (7 * kk) ∧ (getG l i d kk n).2.1 = ((i + kk + (putN m).length : Nat) : Int) ∧ At l (i + kk) (putN m) ∧ (0 < kk → m ≠ 0) := by
  induction d with
  | zero => intro kk n _ _ h; exact absurd h (by show ¬ ((4 : Int) = 0); decide)
  | succ d ih =>
    intro kk n hk hd
    have hmem := hl _ (rd_memG (l := l) (i := ((i + kk : Nat) : Int)) (by omega) (by omega))
    have hone := At.one (l := l) (p := i + kk) (by omega)
    rw [getG_succ]
    obtain ⟨c, hc⟩ : ∃ c, c = rd l ((i + kk : Nat) : Int) := ⟨_, rfl⟩
    rw [← hc] at hmem hone ⊢
    obtain ⟨q, rfl⟩ := Int.eq_ofNat_of_zero_le hmem.1
    by_cases h9 : kk = 9 ∧ 1 < (q : Int)
    · rw [if_pos h9]; intro h; exact absurd h (by show ¬ ((3 : Int) = 0); decide)
    · rw [if_neg h9]
      by_cases hz : 0 < kk ∧ (q : Int) = 0
      · rw [if_pos hz]; intro h; exact absurd h (by show ¬ ((2 : Int) = 0); decide)
      · rw [if_neg hz]
        by_cases hlast : (q : Int) < 128
        · rw [if_pos hlast]
          intro _
          refine ⟨q, ?_, ?_, ?_, fun h => by omega⟩
          · dsimp only; rw [show ((q : Int) % 128) = q by omega]
          · rw [putN_lt (by omega)]; rfl
          · rw [putN_lt (by omega)]; exact hone
        · rw [if_neg hlast]
          have hk8 : kk ≤ 8 := by omega
          intro h
          obtain ⟨m', v1, v2, v3, v4⟩ := ih (kk + 1) _ (by omega) (by omega) h
          have hm' := v4 (by omega)
          have hput : putN (q % 128 + 128 * m') = (q : Int) :: putN m' := by
            rw [putN_ge (by omega), show (q % 128 + 128 * m') / 128 = m' by omega, show ((q % 128 + 128 * m') % 128 + 128) = q by omega]
          refine ⟨q % 128 + 128 * m', ?_, ?_, ?_, fun _ => by omega⟩
          · rw [v1, pow7]
            have e1 : ((q % 128 + 128 * m' : Nat) : Int) = (q : Int) % 128 + 128 * (m' : Int) := by omega
            rw [e1, Int.add_mul, Int.add_assoc]
            congr 2
            rw [Int.mul_comm (2 ^ (7 * kk)) 128, ← Int.mul_assoc, Int.mul_comm (m' : Int) 128]
          · rw [v2, hput, List.length_cons]; omega
          · rw [hput]
            have : At l (i + kk) ([(q : Int)] ++ putN m') := At.app.2 ⟨hone, v3⟩
            exact this
theorem getS_inv {l : List Int} (hl : ∀ x ∈ l, 0 ≤ x ∧ x ≤ 255) {a : Int} (h : (getS l a).2.2 = 0) : ∃ p m : Nat, a = p ∧ p ≤ l.length ∧ m < 18446744073709551616 ∧ (getS l a).1 = m ∧ (getS l a).2.1 = ((p + (putN m).length : Nat) : Int) ∧ At l p (putN m) := by
  obtain ⟨h0, h1, h2, _, _⟩ := getS_ok l hl a h
  unfold getS at h h1 h2 ⊢
  by_cases hbad : a < 0 ∨ l.length < a
  · rw [if_pos hbad] at h; exact absurd h (by show ¬ ((1 : Int) = 0); decide)
  · rw [if_neg hbad] at h h1 h2 ⊢
    obtain ⟨m, v1, v2, v3, _⟩ := getG_inv l hl a.toNat (l.length - a.toNat) 0 0 (by omega) (by omega) h
    have e1 : (getG l a.toNat (l.length - a.toNat) 0 0).1 = (m : Int) := by rw [v1]; simp
    refine ⟨a.toNat, m, by omega, by omega, by omega, e1, ?_, v3⟩
    rw [v2]; simp
/-- A number that stands up to an end is read. -/
theorem num_put {l : List Int} {p e m : Nat} {wh : Int} (hat : At l p (putN m)) (he : p + (putN m).length ≤ e) (hel : e ≤ l.length) (hm : m < 18446744073709551616) : numS l e ⟨p, 0, wh⟩ = ((m : Int), ⟨((p + (putN m).length : Nat) : Int), 0, wh⟩) := by
  have hg : getS (l.take e) (p : Int) = ((m : Int), ((p + (putN m).length : Nat) : Int), 0) := getS_put (by rw [List.length_take]; omega) (hat.untake he) hm
  unfold numS
  rw [if_pos rfl]
  simp only [hg]
  rw [if_pos trivial]
theorem num_inv {l : List Int} (hl : ∀ x ∈ l, 0 ≤ x ∧ x ≤ 255) {e : Nat} (hel : e ≤ l.length) {s : RSt} (h : (numS l e s).2.bad = 0) : ∃ p m : Nat, s = ⟨p, 0, s.wh⟩ ∧ p ≤ e ∧ m < 18446744073709551616 ∧ numS l e s = ((m : Int), ⟨((p + (putN m).length : Nat) : Int), 0, s.wh⟩) ∧ At l p (putN m) ∧ p + (putN m).length ≤ e := by
  unfold numS at h ⊢
  by_cases hb : s.bad = 0
  · rw [if_pos hb] at h ⊢
    by_cases h3 : (getS (l.take e) s.pos).2.2 = 0
    · rw [if_pos h3]
      obtain ⟨p, m, v0, v1, v2, v3, v4, v5⟩ := getS_inv (fun x hx => hl x (List.mem_of_mem_take hx)) h3
      rw [List.length_take, Nat.min_eq_left hel] at v1
      have hlen := v5.len (by rw [List.length_take]; omega)
      rw [List.length_take, Nat.min_eq_left hel] at hlen
      refine ⟨p, m, ?_, v1, v2, ?_, v5.oftake, hlen⟩
      · obtain ⟨a, b, c⟩ := s
        dsimp only at v0 hb
        rw [v0, hb]
      · rw [v3, v4, hb]
    · rw [if_neg h3] at h; exact absurd h h3
  · rw [if_neg hb] at h; exact absurd h hb
theorem xx_i64 (x y : Int) : Go.bits .xor .i64 x y = wrap64 ((BitVec.ofInt 64 x ^^^ BitVec.ofInt 64 y).toNat : Int) := by rw [← Go.Proofs.YthkpocgbinmeiaaDoor.P.wrapE]; rfl
theorem xx_zero (x : Int) (h : -9223372036854775808 ≤ x) (h2 : x < 9223372036854775808) : Go.bits .xor .i64 x 0 = x := by
  rw [xx_i64, show BitVec.ofInt 64 0 = 0#64 from rfl, BitVec.xor_zero, BitVec.toNat_ofInt]
  unfold wrap64
  omega
theorem xx_neg (x : Int) (h : -9223372036854775808 ≤ x) (h2 : x < 9223372036854775808) : Go.bits .xor .i64 x (-1) = -1 - x := by
  rw [xx_i64, show BitVec.ofInt 64 (-1) = BitVec.allOnes 64 by decide, BitVec.xor_allOnes, BitVec.toNat_not, BitVec.toNat_ofInt]
  unfold wrap64
  omega
theorem zag_val (n : Nat) (hn : n < 18446744073709551616) : zagS (n : Int) = if (n : Int) % 2 = 0 then (n : Int) / 2 else -1 - (n : Int) / 2 := by
  unfold zagS
  have ha : Go.bits .and .u64 (n : Int) 1 = (n : Int) % 2 := Go.bits_mask .u64 64 (by decide) (fun n a b => wu64 a (by omega)) 1 (by decide) n (by omega) (by omega)
  rw [ha, w64 (x := (n : Int) % 2) (by omega) (by omega), w64 (x := -((n : Int) % 2)) (by omega) (by omega), w64 (x := (n : Int) / 2) (by omega) (by omega)]
  by_cases h0 : (n : Int) % 2 = 0
  · rw [if_pos h0, h0, show -(0 : Int) = 0 from rfl, xx_zero _ (by omega) (by omega)]
  · rw [if_neg h0, show (n : Int) % 2 = 1 by omega, xx_neg _ (by omega) (by omega)]
theorem zag_zig (m : Int) (h : -2147483648 ≤ m) (h2 : m ≤ 2147483647) : zagS (zigN m) = m := by
  obtain ⟨z0, z1⟩ := zig_bd m h h2
  have := zag_val (zigN m).toNat (by omega)
  rw [Int.toNat_of_nonneg z0] at this
  rw [this]
  unfold zigN
  split <;> split <;> omega
theorem zig_zag (n : Nat) (hn : n < 18446744073709551616) : zigN (zagS (n : Int)) = n := by
  rw [zag_val n hn]
  unfold zigN
  split <;> split <;> omega
theorem most_put {l : List Int} {p e m t : Nat} {wh : Int} (hat : At l p (putN m)) (he : p + (putN m).length ≤ e) (hel : e ≤ l.length) (hm : m ≤ t) (ht : t ≤ 10000) : mostS l e t ⟨p, 0, wh⟩ = ((m : Int), ⟨((p + (putN m).length : Nat) : Int), 0, wh⟩) := by
  unfold mostS
  rw [num_put hat he hel (by omega), if_neg (fun h => by have := h.2; omega)]
theorem signed_put {l : List Int} {p e : Nat} {z wh : Int} (hat : At l p (putN (zigN z).toNat)) (he : p + (putN (zigN z).toNat).length ≤ e) (hel : e ≤ l.length) (h : -2147483648 ≤ z) (h2 : z ≤ 2147483647) : signedS l e ⟨p, 0, wh⟩ = (z, ⟨((p + (putN (zigN z).toNat).length : Nat) : Int), 0, wh⟩) := by
  obtain ⟨z0, z1⟩ := zig_bd z h h2
  unfold signedS
  rw [num_put hat he hel (by omega)]
  dsimp only
  rw [Int.toNat_of_nonneg z0, zag_zig z h h2, if_neg (by omega)]
/-- An event that stands there is read. -/
theorem body_put {l : List Int} {p : Nat} {ev : S34} {evs : List S34} {wh : Int} (hat : At l p (bodyL ev)) (hel : p + (bodyL ev).length ≤ l.length) (hr : rightB ev = true) (h7 : seventhB evs ev.f1 = false) :
    bodyS l (p + (bodyL ev).length) (rd l (p : Int)) ⟨p, 0, wh⟩ evs = (⟨((p + (bodyL ev).length : Nat) : Int), 0, wh⟩, ev) ∧ rd l (p : Int) < 10 := by
  obtain ⟨h0, h1, h2, h3⟩ := right_bd hr
  obtain ⟨E, hE⟩ : ∃ E, E = p + (bodyL ev).length := ⟨_, rfl⟩
  rw [← hE] at hel ⊢
  unfold bodyL at hat hE
  obtain ⟨hat, haz⟩ := At.app.1 hat
  obtain ⟨hat, hav⟩ := At.app.1 hat
  obtain ⟨hak, han⟩ := At.app.1 hat
  obtain ⟨_, hrd, _⟩ := hak.head
  rw [show ev.f0 % 256 = ev.f0 by omega] at hrd
  rw [hrd]
  refine ⟨?_, by omega⟩
  simp only [List.length_append, List.length_cons, List.length_nil] at han hav haz hE
  have hm : mostS l E 9999 ⟨(p : Int) + 1, 0, wh⟩ = (ev.f1, ⟨((p + 1 + (putN ev.f1.toNat).length : Nat) : Int), 0, wh⟩) := by
    have := most_put (t := 9999) (wh := wh) han (by omega : p + (0 + 1) + (putN ev.f1.toNat).length ≤ E) hel (by omega) (by omega)
    rw [show ((p + (0 + 1) : Nat) : Int) = (p : Int) + 1 by omega, Int.toNat_of_nonneg h1.1] at this
    rw [this]
  have hV : (if varB ev.f0 then mostS l E 7 ⟨((p + 1 + (putN ev.f1.toNat).length : Nat) : Int), 0, wh⟩ else (0, ⟨((p + 1 + (putN ev.f1.toNat).length : Nat) : Int), 0, wh⟩)) = (ev.f2, ⟨((p + 1 + (putN ev.f1.toNat).length + (if varB ev.f0 then putN ev.f2.toNat else []).length : Nat) : Int), 0, wh⟩) := by
    cases hv : varB ev.f0 with
    | true =>
      rw [hv] at hav hE haz
      rw [if_pos rfl] at hav hE haz ⊢
      rw [if_pos rfl]
      have := most_put (t := 7) (wh := wh) (p := p + 1 + (putN ev.f1.toNat).length) (m := ev.f2.toNat) (by rw [show p + 1 + (putN ev.f1.toNat).length = p + (0 + 1 + (putN ev.f1.toNat).length) by omega]; exact hav) (by omega) hel (by omega) (by omega)
      rw [Int.toNat_of_nonneg h2.1] at this
      rw [this]
    | false =>
      rw [if_neg (by simp), if_neg (by simp)]
      have : ev.f2 = 0 := by
        unfold rightB at hr
        simp only [Bool.and_eq_true, Bool.or_eq_true, beq_iff_eq, hv] at hr
        rcases hr.2.2.1 with h | h
        · simp at h
        · exact h
      rw [this]; rfl
  have hZ : ∀ q : Nat, q = p + 1 + (putN ev.f1.toNat).length + (if varB ev.f0 then putN ev.f2.toNat else []).length → (if valB ev.f0 then signedS l E ⟨(q : Int), 0, wh⟩ else (0, ⟨(q : Int), 0, wh⟩)) = (ev.f3, ⟨(E : Int), 0, wh⟩) := by
    intro q hq
    cases hv : valB ev.f0 with
    | true =>
      rw [hv] at haz hE
      rw [if_pos rfl] at haz hE ⊢
      have := signed_put (wh := wh) (p := q) (z := ev.f3) (e := E) (by rw [hq, show p + 1 + (putN ev.f1.toNat).length + (if varB ev.f0 = true then putN ev.f2.toNat else []).length = p + (0 + 1 + (putN ev.f1.toNat).length + (if varB ev.f0 = true then putN ev.f2.toNat else []).length) by omega]; exact haz) (by omega) hel h3.1 h3.2
      rw [this]
      congr 3
      omega
    | false =>
      rw [if_neg (by simp)]
      simp only [hv, Bool.false_eq_true, if_false, List.length_nil] at hE
      have h30 : ev.f3 = 0 := by
        unfold rightB at hr
        simp only [Bool.and_eq_true, Bool.or_eq_true, beq_iff_eq, hv] at hr
        rcases hr.2.2.2 with h | h
        · simp at h
        · exact h
      rw [h30]
      congr 3
      omega
  have := bodyS_of (e := E) (k := ev.f0) (l := l) (s := ⟨(p : Int), 0, wh⟩) (evs := evs) hm (s4 := ⟨((p + 1 + (putN ev.f1.toNat).length : Nat) : Int), 0, wh⟩) (by rw [if_neg (by rw [h7]; simp)]) hV (hZ _ rfl) (s7 := ⟨(E : Int), 0, wh⟩) (by rw [if_neg (by simp)])
  rw [this]
end Go.Proofs.YthkpocgbinmeiaaDoor.U

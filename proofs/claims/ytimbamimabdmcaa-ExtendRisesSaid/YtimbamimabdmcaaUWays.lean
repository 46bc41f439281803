/- The places that can be come to: a place can be come to from itself, just if there is a way back. -/
import Derived.Test.YtimbamimabdmcaaUExtend
import Derived.Test.YtimbamimabdmcaaGWays
import Derived.Test.YtimbamimabdmcaaGCyc
import Derived.Test.YtimbamimabdmcaaGExt
namespace Go.Proofs.Ytimbamimabdmcaa.U
set_option linter.unusedVariables false
set_option linter.unusedSimpArgs false
open Go Go.RowKit Go.Proofs.Ytimbamimabdmcaa.P Go.Proofs.YtimbamimabdmcaaW.PrintWords Go.Proofs.YtimbamimabdmcaaW.PrintLast Go.Proofs.YtimbamimabdmcaaW.PrintMore

theorem first_inv {l0 : List Int} {i : Int} {n : Nat} (Q : List Int → Prop) (h : ∀ k, k < n → ∀ out, Q out → Q (addK out (k : Int) (bitB (rd l0 i) k))) : ∀ d k out, k + d = n → Q out → Q (wFirst l0 i d k out) := by
  intro d
  induction d with
  | zero => intro k out _ hq; exact hq
  | succ d ih => intro k out hk hq; exact ih (k + 1) _ (by omega) (h k (by omega) out hq)
theorem in_inv {l0 : List Int} {k : Nat} (Q : List Int → Prop) : ∀ (s out : List Int), (∀ x ∈ s, ∀ out, Q out → Q (addK out (k : Int) (bitB (rd l0 x) k))) → Q out → Q (wIn l0 k s out) := by
  intro s
  induction s with
  | nil => intro out _ hq; exact hq
  | cons x t ih => intro out h hq; exact ih _ (fun y hy => h y (List.mem_cons_of_mem _ hy)) (h x List.mem_cons_self out hq)
theorem step_inv {l0 : List Int} {n : Nat} (Q : List Int → Prop) (h : ∀ k, k < n → ∀ s, Q s → ∀ x ∈ s, ∀ out, Q out → Q (addK out (k : Int) (bitB (rd l0 x) k))) : ∀ d k out, k + d = n → Q out → Q (wStep l0 d k out) := by
  intro d
  induction d with
  | zero => intro k out _ hq; exact hq
  | succ d ih => intro k out hk hq; exact ih (k + 1) _ (by omega) (in_inv Q out out (fun x hx o ho => h k (by omega) out hq x hx o ho) hq)
theorem steps_inv {l0 : List Int} (Q : List Int → Prop) (h : ∀ k, k < l0.length → ∀ s, Q s → ∀ x ∈ s, ∀ out, Q out → Q (addK out (k : Int) (bitB (rd l0 x) k))) : ∀ d out, Q out → Q (wSteps l0 d out) := by
  intro d
  induction d with
  | zero => intro out hq; exact hq
  | succ d ih => intro out hq; exact ih _ (step_inv Q h l0.length 0 out (by omega) hq)
theorem ways_inv {l0 : List Int} {i : Int} {most : Nat} (Q : List Int → Prop) (h0 : Q []) (h1 : ∀ k, k < l0.length → ∀ out, Q out → Q (addK out (k : Int) (bitB (rd l0 i) k))) (h : ∀ k, k < l0.length → ∀ s, Q s → ∀ x ∈ s, ∀ out, Q out → Q (addK out (k : Int) (bitB (rd l0 x) k))) : Q (waysF l0 i most) := by
  unfold waysF
  split
  · exact h0
  · exact steps_inv Q h _ _ (first_inv Q h1 l0.length 0 [] (by omega) h0)
theorem add_mem_iff (out : List Int) (k : Int) (b : Bool) (y : Int) : y ∈ addK out k b → y ∈ out ∨ (y = k ∧ b = true) := by
  unfold addK
  split
  · rename_i h
    intro hy
    rcases List.mem_append.1 hy with h1 | h1
    · exact .inl h1
    · rw [List.mem_singleton] at h1
      simp only [Bool.and_eq_true] at h
      exact .inr ⟨h1, h.1⟩
  · exact .inl
theorem add_keep {out : List Int} (k : Int) (b : Bool) {y : Int} (h : y ∈ out) : y ∈ addK out k b := by
  unfold addK
  split
  · exact List.mem_append_left _ h
  · exact h
theorem add_there (out : List Int) (k : Int) : k ∈ addK out k true := by
  cases h : out.contains k with
  | true => rw [add_in true h]; exact List.contains_iff_mem.1 h
  | false => rw [add_new h]; simp
theorem ways_ok (l0 : List Int) (i : Int) (most : Nat) : OutOK l0.length (waysF l0 i most) := by
  have key : ∀ k, k < l0.length → ∀ (out : List Int) (b : Bool), OutOK l0.length out → OutOK l0.length (addK out (k : Int) b) := fun k hk out b ho => by
    cases b with
    | false => exact ho
    | true =>
      cases h : out.contains (k : Int) with
      | true => rw [add_in true h]; exact ho
      | false => rw [add_new h]; exact ho.add k hk h
  exact ways_inv (OutOK l0.length) ⟨List.nodup_nil, fun x hx => nomatch hx⟩ (fun k hk out ho => key k hk out _ ho) (fun k hk s _ x _ out ho => key k hk out _ ho)
/-- Where an edge leads, that comes later. -/
theorem edge_before (l0 r : List Int) (hr : r ∈ rowsR l0.length l0.length) (hf : allFree l0 r l0.length = true) (x : Nat) (hx : x < l0.length) (p : Nat) (hp : p < l0.length) (hb : bitB (rd l0 (x : Int)) (rd r (p : Int)).toNat = true) : ∃ q, q < p ∧ rd r (q : Int) = x := by
  unfold allFree at hf
  rw [List.all_eq_true] at hf
  have h2 := hf p (List.mem_range.2 hp)
  unfold freeS at h2
  rw [List.all_eq_true] at h2
  have h3 := h2 x (List.mem_range.2 hx)
  rw [hb, Bool.not_true, Bool.or_false, List.contains_iff_mem] at h3
  obtain ⟨q, h4, _, h5⟩ := mem_take_pos h3
  exact ⟨q, h4, h5⟩
theorem nodup_pos {r : List Int} (h : r.Nodup) {p q : Nat} (hp : p < r.length) (hq : q < r.length) (e : rd r (p : Int) = rd r (q : Int)) : p = q := by
  have h1 := rd_some hp
  have h2 := rd_some hq
  rw [← e] at h2
  have h3 : r[p]? = r[q]? := h1.trans h2.symm
  exact (List.getElem?_inj hp h).1 h3
theorem place_of (l0 r : List Int) (hr : r ∈ rowsR l0.length l0.length) (x : Nat) (hx : x < l0.length) : ∃ p, p < l0.length ∧ rd r (p : Int) = x := by
  have hm := whole_mem _ r hr (x : Int) (by omega) (by omega)
  obtain ⟨p, hp, e⟩ := List.mem_iff_getElem.1 hm
  have h1 := (rows_in _ _ r hr).1
  refine ⟨p, by omega, ?_⟩
  have := rd_some hp
  rw [List.getElem?_eq_getElem hp] at this
  rw [← Option.some.inj this, e]
def AfterP (r : List Int) (n : Nat) (i k : Int) : Prop := ∃ q p : Nat, q < p ∧ p < n ∧ rd r (q : Int) = i ∧ rd r (p : Int) = k
theorem ways_after (l0 r : List Int) (hr : r ∈ rowsR l0.length l0.length) (hf : allFree l0 r l0.length = true) (i : Nat) (hi : i < l0.length) (most : Nat) : ∀ k ∈ waysF l0 (i : Int) most, AfterP r l0.length i k := by
  obtain ⟨ra, rb, rc⟩ := rows_in _ _ r hr
  refine ways_inv (fun out => ∀ k ∈ out, AfterP r l0.length i k) (fun k hk => nomatch hk) ?_ ?_
  · intro k hk out ho y hy
    rcases add_mem_iff _ _ _ _ hy with h | ⟨rfl, hb⟩
    · exact ho y h
    · obtain ⟨p, hp, hpe⟩ := place_of l0 r hr k hk
      obtain ⟨q, hq, hqe⟩ := edge_before l0 r hr hf i hi p hp (by rw [hpe, Int.toNat_natCast]; exact hb)
      exact ⟨q, p, hq, hp, hqe, hpe⟩
  · intro k hk s hs x hx out ho y hy
    rcases add_mem_iff _ _ _ _ hy with h | ⟨rfl, hb⟩
    · exact ho y h
    · obtain ⟨q1, p1, h1, h2, h3, h4⟩ := hs x hx
      obtain ⟨p, hp, hpe⟩ := place_of l0 r hr k hk
      have hxn := rc x (by rw [← h4]; exact rd_mem (by omega))
      obtain ⟨x', rfl⟩ := Int.eq_ofNat_of_zero_le hxn.1
      obtain ⟨q, hq, hqe⟩ := edge_before l0 r hr hf x' (by omega) p hp (by rw [hpe, Int.toNat_natCast]; exact hb)
      have := nodup_pos rb (p := q) (q := p1) (by omega) (by omega) (by rw [hqe, h4])
      exact ⟨q1, p, by omega, hp, h3, hpe⟩
theorem first_there (l0 : List Int) (i : Int) (k0 : Nat) (hb : bitB (rd l0 i) k0 = true) : ∀ d k out, k ≤ k0 → k0 < k + d → (k0 : Int) ∈ wFirst l0 i d k out := by
  intro d
  induction d with
  | zero => intro k out h1 h2; omega
  | succ d ih =>
    intro k out h1 h2
    by_cases he : k = k0
    · subst he
      refine first_inv (n := k + 1 + d) (fun o => (k : Int) ∈ o) (fun k' _ o ho => add_keep _ _ ho) d (k + 1) _ rfl ?_
      rw [hb]; exact add_there _ _
    · exact ih (k + 1) _ (by omega) (by omega)
theorem in_there (l0 : List Int) (k : Nat) (x : Int) (hb : bitB (rd l0 x) k = true) : ∀ s out, x ∈ s → (k : Int) ∈ wIn l0 k s out := by
  intro s
  induction s with
  | nil => intro out h; cases h
  | cons y t ih =>
    intro out h
    rcases List.mem_cons.1 h with rfl | h
    · refine in_inv (fun o => (k : Int) ∈ o) t _ (fun z _ o ho => add_keep _ _ ho) ?_
      rw [hb]; exact add_there _ _
    · exact ih _ h
theorem step_keep (l0 : List Int) (d k : Nat) (out : List Int) (y : Int) (h : y ∈ out) : y ∈ wStep l0 d k out :=
  step_inv (n := k + d) (fun o => y ∈ o) (fun k' _ s _ x _ o ho => add_keep _ _ ho) d k out rfl h
theorem step_there (l0 : List Int) (k0 : Nat) (x : Int) (hb : bitB (rd l0 x) k0 = true) : ∀ d k out, k ≤ k0 → k0 < k + d → x ∈ out → (k0 : Int) ∈ wStep l0 d k out := by
  intro d
  induction d with
  | zero => intro k out h1 h2; omega
  | succ d ih =>
    intro k out h1 h2 hx
    by_cases he : k = k0
    · subst he
      exact step_keep l0 d (k + 1) _ _ (in_there l0 k x hb out out hx)
    · exact ih (k + 1) _ (by omega) (by omega) (in_inv (fun o => x ∈ o) out out (fun z _ o ho => add_keep _ _ ho) hx)
theorem steps_snoc (l0 : List Int) (d : Nat) : ∀ out, wSteps l0 (d + 1) out = wStep l0 l0.length 0 (wSteps l0 d out) := by
  induction d with
  | zero => intro out; rfl
  | succ d ih => intro out; show wSteps l0 (d + 1) (wStep l0 l0.length 0 out) = _; rw [ih]; rfl
theorem steps_keep (l0 : List Int) (d : Nat) (out : List Int) (y : Int) (h : y ∈ out) : y ∈ wSteps l0 d out := by
  induction d with
  | zero => exact h
  | succ d ih => rw [steps_snoc]; exact step_keep _ _ _ _ _ ih
theorem cycle_ways (l0 c : List Int) (hc : InN l0.length c) (hnd : c.Nodup) (hp : 0 < c.length) (hw : walkS l0 c = true) : rd c 0 ∈ waysF l0 (rd c 0) l0.length := by
  have hlen : c.length ≤ l0.length := OutOK.len ⟨hnd, hc⟩
  unfold walkS at hw
  rw [okFrom_iff] at hw
  obtain ⟨_, hall⟩ := hw
  have edge : ∀ j, j < c.length → bitB (rd l0 (rd c (j : Int))) (rd c (((j + 1) % c.length : Nat) : Int)).toNat = true := fun j hj => by
    have h1 := hall j (Nat.zero_le _) (by omega)
    unfold okAt at h1
    rw [Bool.and_eq_true] at h1
    exact h1.2
  have nat : ∀ j : Nat, j < c.length → ∃ m : Nat, m < l0.length ∧ rd c (j : Int) = m := fun j hj => by
    have := hc _ (rd_mem hj)
    obtain ⟨m, hm⟩ := Int.eq_ofNat_of_zero_le this.1
    exact ⟨m, by omega, hm⟩
  have key : ∀ s, s < c.length → rd c (((s + 1) % c.length : Nat) : Int) ∈ wSteps l0 s (wFirst l0 (rd c 0) l0.length 0 []) := by
    intro s
    induction s with
    | zero =>
      intro _
      obtain ⟨m, hm, hme⟩ := nat ((0 + 1) % c.length) (Nat.mod_lt _ hp)
      have h1 := edge 0 hp
      rw [hme] at h1 ⊢
      rw [Int.toNat_natCast] at h1
      exact first_there l0 (rd c 0) m h1 l0.length 0 [] (Nat.zero_le _) (by omega)
    | succ s ih =>
      intro hs
      have h2 := ih (by omega)
      obtain ⟨m, hm, hme⟩ := nat ((s + 1 + 1) % c.length) (Nat.mod_lt _ hp)
      have h1 := edge (s + 1) hs
      rw [hme] at h1 ⊢
      rw [Int.toNat_natCast] at h1
      rw [Nat.mod_eq_of_lt hs] at h2
      rw [steps_snoc]
      exact step_there l0 m _ h1 l0.length 0 _ (Nat.zero_le _) (by omega) h2
  have h1 := key (c.length - 1) (by omega)
  rw [show c.length - 1 + 1 = c.length by omega, Nat.mod_self] at h1
  unfold waysF
  rw [if_neg (by omega)]
  obtain ⟨e, he⟩ : ∃ e, l0.length - 1 = (c.length - 1) + e := ⟨l0.length - c.length, by omega⟩
  rw [he]
  clear he
  induction e with
  | zero => exact h1
  | succ e ih => rw [← Nat.add_assoc, steps_snoc]; exact step_keep _ _ _ _ _ ih
/-- A place that can be come to from itself: just if there is a way back. -/
theorem ways_cyc (l0 : List Int) (hu : InU l0) (hn : l0.length ≤ 6) : ((List.range l0.length).any fun (i : Nat) => (waysF l0 (i : Int) l0.length).contains (i : Int)) = cycB l0 := by
  rcases ext_or_cycle l0 hu hn with ⟨h, _⟩ | ⟨h, c, hp, hnd, hc, hw⟩
  · have hcy : cycB l0 = false := decide_eq_false h
    rw [hcy, List.any_eq_false]
    intro i hi
    rw [List.mem_range] at hi
    rw [Bool.not_eq_true]
    cases hx : (waysF l0 (i : Int) l0.length).contains (i : Int) with
    | false => rfl
    | true =>
      obtain ⟨r, hr⟩ := List.exists_mem_of_ne_nil _ h
      obtain ⟨h1, h2⟩ := (mem_ext l0 r).1 hr
      obtain ⟨q, p, h3, h4, h5, h6⟩ := ways_after l0 r h1 h2 i hi l0.length (i : Int) (List.contains_iff_mem.1 hx)
      obtain ⟨ra, rb, _⟩ := rows_in _ _ r h1
      have := nodup_pos rb (p := q) (q := p) (by omega) (by omega) (by rw [h5, h6])
      omega
  · have hcy : cycB l0 = true := decide_eq_true h
    rw [hcy, List.any_eq_true]
    have h0 := hc _ (rd_mem (l := c) (i := 0) hp)
    obtain ⟨m, hm⟩ := Int.eq_ofNat_of_zero_le h0.1
    refine ⟨m, List.mem_range.2 (by omega), ?_⟩
    have h1 := cycle_ways l0 c hc hnd hp hw
    rw [show (rd c 0 : Int) = (m : Int) from hm] at h1
    exact List.contains_iff_mem.2 h1
end Go.Proofs.Ytimbamimabdmcaa.U

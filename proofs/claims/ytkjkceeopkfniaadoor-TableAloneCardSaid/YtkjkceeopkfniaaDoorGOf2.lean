/- prefix.Of, given: a transaction's events, in a row of its own; slices.DeleteFunc at events. -/
import Derived.Test.YtkjkceeopkfniaaDoorGOf
namespace Go.Proofs.YtkjkceeopkfniaaDoor.P
set_option linter.unusedVariables false
set_option linter.unusedSimpArgs false
open Go Go.RowKit Go.Proofs.YtkjkceeopkfniaaDoorW.PrintWords Go.Proofs.YtkjkceeopkfniaaDoorW.PrintLast Go.Proofs.YtkjkceeopkfniaaDoorW.PrintMore Go.Proofs.YtkjkceeopkfniaaDoor.U

theorem tailE {e g n cap base m : Nat} {ok : Nat → Prop} {W : World} {xs : List S36} (h : Kd.R k36 e W base ok (.slice (some ⟨g, 0, none⟩) n cap) xs) (hm : m ≤ xs.length) (seg : List Value) (hfit : m * 4 + seg.length ≤ n * 4) :
    Kd.R k36 e (W.setCells g (m * 4) seg) base ok (.slice (some ⟨g, 0, none⟩) m cap) (xs.take m) ∧ W.grownBy (W.setCells g (m * 4) seg) (some g) := by
  obtain ⟨hn, hnc0, _⟩ := Kd.R_reads' h
  obtain ⟨hok, inner, ⟨ho1, ho2⟩, hr⟩ := Kd.R_take h hm
  have hsz : k36.sz = 4 := rfl
  rcases ho2 with ⟨hv, _⟩ | ⟨g', cap', cur, hv, hb, hh, hnc, hcm, hcs, ht⟩
  · cases hv
  injection hv with ha _ hc
  injection ha with ha
  injection ha with hg
  subst hg; subst hc
  have hfit2 : m * 4 + seg.length ≤ cur.size := by rw [hcs, hsz]; omega
  obtain ⟨cur', h3, h4, h5⟩ := setCells_row seg (m * 4) W cur hh hfit2
  obtain ⟨s1, s2, s3, s4⟩ := setCells_same g seg (m * 4) W
  refine ⟨⟨hok, inner, ⟨ho1, .inr ⟨g, cap, cur', by rw [List.length_take, Nat.min_eq_left hm], hb, h3, hnc, hcm, by rw [h4, hcs], ?_⟩⟩, hr.imp_ (fun x cs hp => by obtain rfl := k36_openM hp; exact k36_mkM _ _ _ x)⟩, ⟨s1, s2, s3, by rw [s4]; exact Nat.le_refl _, fun k _ hk => setCells_far seg _ k (fun he => hk (by rw [he]))⟩⟩
  rw [← ht, h5, hsz, List.length_take, Nat.min_eq_left hm, List.append_assoc, List.take_append_of_le_length (by rw [List.length_take, Array.length_toList]; omega), List.take_take, Nat.min_self]
theorem clearE (W : World) (ty : TypeId) (g o m c : Nat) (hm : 0 < m) (hc : ∀ j, j < m * 4 → (W.cell? ⟨g, o + j, none⟩).isSome = true) (hf : ∀ j, j < m * 4 → W.frozen? ⟨g, o + j, none⟩ = false) :
    ∃ seg : List Value, seg.length = m * 4 ∧ (Builtin.clear_ #[22] ty #[.slice (some ⟨g, o, none⟩) m c]).run Tryd.prog W = .ok (.tuple #[]) (W.setCells g o seg) := by
  obtain ⟨seg, hseg⟩ : ∃ seg, seg = (Builtin.zeroCells #[.int .i64 0, .int .i64 0, .int .i64 0, .int .i64 0] m).toList := ⟨_, rfl⟩
  have hl : seg.length = m * 4 := by rw [hseg]; simp [Builtin.zeroCells]
  have h1 : ∀ v ∈ seg, v.oneCell' = true := by
    intro v hv
    rw [hseg] at hv
    simp only [Builtin.zeroCells, Array.toList_map, List.mem_map] at hv
    obtain ⟨i, _, rfl⟩ := hv
    have h4 : i % 4 = 0 ∨ i % 4 = 1 ∨ i % 4 = 2 ∨ i % 4 = 3 := by omega
    show (#[Value.int .i64 0, .int .i64 0, .int .i64 0, .int .i64 0][i % 4]!).oneCell' = true
    rcases h4 with h | h | h | h <;> rw [h] <;> rfl
  refine ⟨seg, hl, ?_⟩
  have hst := run_storeCells_cells (P := Tryd.prog) g o seg 0 W (by rw [hl]; simpa using hc) (by rw [hl]; simpa using hf) h1
  simp only [Nat.add_zero] at hst
  obtain ⟨k, rfl⟩ : ∃ k, m = k + 1 := ⟨m - 1, by omega⟩
  have hz : ∀ w, (zeroValue 36).run Tryd.prog w = .ok (.agg #[.int .i64 0, .int .i64 0, .int .i64 0, .int .i64 0]) w := Tryd.zeroValue36
  have hcs : (Value.agg #[.int .i64 0, .int .i64 0, .int .i64 0, .int .i64 0]).cells = #[.int .i64 0, .int .i64 0, .int .i64 0, .int .i64 0] := rfl
  simp [Builtin.clear_, run_underlying Tryd.underlying22, hz, hcs, ← hseg, hst, Result.andThen]
/-- Cells of element i of a row of one's own. -/
structure ElE (W : World) (g i : Nat) : Prop where
  c0 : ∃ u, W.cell? ⟨g, i * 4, none⟩ = some u
  c1 : ∃ u, W.cell? ⟨g, i * 4 + 1, none⟩ = some u
  c2 : ∃ u, W.cell? ⟨g, i * 4 + 2, none⟩ = some u
  c3 : ∃ u, W.cell? ⟨g, i * 4 + 3, none⟩ = some u
  f0 : W.frozen? ⟨g, i * 4, none⟩ = false
  f1 : W.frozen? ⟨g, i * 4 + 1, none⟩ = false
  f2 : W.frozen? ⟨g, i * 4 + 2, none⟩ = false
  f3 : W.frozen? ⟨g, i * 4 + 3, none⟩ = false
theorem elE {e g n cap base i : Nat} {ok : Nat → Prop} {W : World} {xs : List S36} {ad : Addr} (h : Kd.R k36 e W base ok (.slice (some ad) n cap) xs) (had : ad = ⟨g, 0, none⟩) (hi : i < n) : ElE W g i := by
  subst had
  obtain ⟨c, hcl, hM, hcc, hfr⟩ := Kd.R_elem h z36 (i : Int) (by omega) (by omega)
  rw [Int.toNat_natCast] at hcc hfr
  obtain rfl := k36_openM hM
  have hsz : k36.sz = 4 := rfl
  rw [hsz] at hcc hfr
  exact ⟨⟨_, hcc 0 _ rfl⟩, ⟨_, hcc 1 _ rfl⟩, ⟨_, hcc 2 _ rfl⟩, ⟨_, hcc 3 _ rfl⟩, hfr 0, hfr 1, hfr 2, hfr 3⟩
theorem putE {e g n cap base i : Nat} {ok : Nat → Prop} {W : World} {xs : List S36} {ad : Addr} (h : Kd.R k36 e W base ok (.slice (some ad) n cap) xs) (had : ad = ⟨g, 0, none⟩) (hi : i < n) (x : S36) :
    Kd.R k36 e ((((W.setCell ⟨g, i * 4, none⟩ (.int .i64 x.f0)).setCell ⟨g, i * 4 + 1, none⟩ (.int .i64 x.f1)).setCell ⟨g, i * 4 + 2, none⟩ (.int .i64 x.f2)).setCell ⟨g, i * 4 + 3, none⟩ (.int .i64 x.f3)) base ok (.slice (some ad) n cap) (xs.set i x) := by
  subst had
  obtain ⟨c, hcl, hM, hcc, hfr⟩ := Kd.R_elem h z36 (i : Int) (by omega) (by omega)
  have hsz : k36.sz = 4 := rfl
  have := (Kd.R_seg (okp := fun _ => False) (x' := x) (j := 0) (seg := [.int .i64 x.f0, .int .i64 x.f1, .int .i64 x.f2, .int .i64 x.f3]) h (i : Int) (by omega) (by omega) hcl hcc (by show 0 + 4 ≤ 4; omega) (by
    have hd : c.drop (0 + 4) = [] := List.drop_eq_nil_of_le (by rw [hcl, hsz]; omega)
    simp only [List.take_zero, List.nil_append, List.length_cons, List.length_nil, hd, List.append_nil]
    exact k36_mkM _ _ _ x) (fun _ hk => hk.elim)).1
  rw [Int.toNat_natCast, hsz, Nat.add_zero] at this
  exact this
theorem below_putE {B i : Nat} {W0 W : World} {g : Nat} (h : Below B W0 W) (hle : B ≤ g) (a b c d : Value) :
    Below B W0 ((((W.setCell ⟨g, i * 4, none⟩ a).setCell ⟨g, i * 4 + 1, none⟩ b).setCell ⟨g, i * 4 + 2, none⟩ c).setCell ⟨g, i * 4 + 3, none⟩ d) :=
  (((h.setCell (p := ⟨g, _, none⟩) hle _).setCell (p := ⟨g, _, none⟩) hle _).setCell (p := ⟨g, _, none⟩) hle _).setCell (p := ⟨g, _, none⟩) hle _
theorem far_putE {i k : Nat} {W : World} {g : Nat} (hk : k ≠ g) (a b c d : Value) :
    ((((W.setCell ⟨g, i * 4, none⟩ a).setCell ⟨g, i * 4 + 1, none⟩ b).setCell ⟨g, i * 4 + 2, none⟩ c).setCell ⟨g, i * 4 + 3, none⟩ d).heap[k]? = W.heap[k]? := by
  rw [Below.heap_setCell _ ⟨g, _, none⟩ _ k hk, Below.heap_setCell _ ⟨g, _, none⟩ _ k hk, Below.heap_setCell _ ⟨g, _, none⟩ _ k hk, Below.heap_setCell _ ⟨g, _, none⟩ _ k hk]
theorem size_putE {i : Nat} {W : World} {g : Nat} (a b c d : Value) :
    ((((W.setCell ⟨g, i * 4, none⟩ a).setCell ⟨g, i * 4 + 1, none⟩ b).setCell ⟨g, i * 4 + 2, none⟩ c).setCell ⟨g, i * 4 + 3, none⟩ d).heap.size = W.heap.size := by simp [World.setCell]
/-! ### the plain side -/
def keepE (tx : Int) (e : S36) : Bool := e.f1 == tx
theorem idxE_none (g : S36 → Bool) (l : List S36) : ∀ i, idxE g l i = -1 → ∀ x ∈ l, g x = false := by
  induction l with
  | nil => intro i _ x hx; cases hx
  | cons y t ih =>
    intro i h x hx
    unfold idxE at h
    cases hg : g y with
    | true => rw [hg, if_pos rfl] at h; omega
    | false =>
      rw [hg, if_neg Bool.false_ne_true] at h
      rcases List.mem_cons.1 hx with rfl | hx
      · exact hg
      · exact ih _ h x hx
theorem idxE_some (g : S36 → Bool) (l : List S36) : ∀ i, idxE g l i ≠ -1 → ∃ k : Nat, idxE g l i = (i : Int) + k ∧ k < l.length ∧ (∀ x ∈ l.take k, g x = false) ∧ (l[k]?).map g = some true := by
  induction l with
  | nil => intro i h; exact absurd rfl h
  | cons y t ih =>
    intro i h
    unfold idxE at h ⊢
    cases hg : g y with
    | true =>
      rw [if_pos rfl]
      exact ⟨0, by omega, by simp, fun x hx => by simp at hx, by simp [hg]⟩
    | false =>
      rw [hg, if_neg Bool.false_ne_true] at h
      rw [if_neg Bool.false_ne_true]
      obtain ⟨k, h1, h2, h3, h4⟩ := ih (i + 1) h
      refine ⟨k + 1, by rw [h1]; omega, by simp; omega, fun x hx => ?_, by simpa using h4⟩
      rw [List.take_succ_cons] at hx
      rcases List.mem_cons.1 hx with rfl | hx
      · exact hg
      · exact h3 x hx
theorem filter_snoc (p : S36 → Bool) (l : List S36) (j : Nat) (h : j < l.length) : (l.take (j + 1)).filter p = (l.take j).filter p ++ (if p l[j] then [l[j]] else []) := by
  rw [List.take_succ_eq_append_getElem h, List.filter_append]
  congr 1
  by_cases hp : p l[j] = true <;> simp [hp]
set_option maxHeartbeats 4000000 in
set_option maxRecDepth 100000 in
theorem delete_run (v : Value) (l : List S36) (tx : Int) (bf bt B : Nat) (W : World) (hr : Kd.R k36 36 W B (fun _ => True) v l) (hf : Boxed W bf 43 (fOf bt)) (ht : Boxed W bt 3 (.int .i64 tx)) (hBW : B ≤ W.heap.size) :
    Calls Tryd.prog 25 #[v, fKept bf] W fun e w' => ∃ v', e = .returned v' ∧ Kd.R k36 36 w' B (fun _ => True) v' (l.filter (keepE tx)) ∧ Below B W w' := by
  obtain ⟨A, c, rfl⟩ := Kd.R_slice hr
  have hidx := index_kept A c l tx bf bt W (Kd.R_reads' hr).2.2 hf ht
  have hmax : l.length ≤ 9223372036854775807 := (Kd.R_reads' hr).2.2.2.1
  by_cases hi : idxE (fun x => !(x.f1 == tx)) l 0 = -1
  · rw [hi] at hidx
    have hall := idxE_none _ l 0 hi
    have hfl : l.filter (keepE tx) = l := by
      rw [List.filter_eq_self]
      intro x hx
      have := hall x hx
      unfold keepE
      simpa using this
    rw [hfl]
    have HR := Lib.hid hr
    have HIX := Lib.hid hidx
    have HBW := Lib.hid hBW
    clear hr hidx hi hall hfl hf ht hBW
    go_enter Tryd.func25, Tryd.ntmps25
    go_wp2_with (go_at_call 81; refine HIX.out.mono ?_; rintro x w1 ⟨rfl, hb⟩; have HB1 := Lib.hid hb; clear hb)
    go_ret
    exact ⟨_, rfl, Kd.R_below HR.out HB1.out, HB1.out.mono HBW.out⟩
  · obtain ⟨i0, h1, h2, h3, h4⟩ := idxE_some _ l 0 hi
    rw [h1] at hidx hi
    have hne : (((0 : Nat) : Int) + (i0 : Int) == -1) = false := beq_eq_false_iff_ne.2 hi
    rw [show ((0 : Nat) : Int) + (i0 : Int) = (i0 : Int) by omega] at hidx hne
    have hpos : 0 < l.length := by omega
    obtain ⟨ad0, hA⟩ : ∃ ad, A = some ad := by
      obtain ⟨ad, hA, _⟩ := (Kd.R_reads' hr).2.2.2.2 hpos
      exact ⟨ad, hA⟩
    subst hA
    obtain ⟨g, had⟩ := Kd.R_head hr
    have hcap : l.length ≤ c := (Kd.R_reads' hr).2.1
    have hgo : B ≤ g ∧ g < W.heap.size := by
      have hown : (Value.slice (some ad0) l.length c).ownBlock = some g := by rw [had]; simp [Value.ownBlock]
      exact ⟨Kd.R_base hr g hown, Kd.R_lt hr g hown⟩
    have hgty : ∃ cells, W.heap[g]? = some (.cells cells 36 (0, 0)) := by
      have hown : (Value.slice (some ad0) l.length c).ownBlock = some g := by rw [had]; simp [Value.ownBlock]
      exact Kd.R_typed hr g hown
    have hgf : bf ≠ g := by rintro rfl; obtain ⟨cells, hc⟩ := hgty; exact blk_ne (show W.heap[bf]? = _ from hf) hc (by decide) rfl
    have hgt : bt ≠ g := by rintro rfl; obtain ⟨cells, hc⟩ := hgty; exact blk_ne (show W.heap[bt]? = _ from ht) hc (by decide) rfl
    have hfil0 : (l.take (i0 + 1)).filter (keepE tx) = l.take i0 := by
      rw [filter_snoc _ _ _ h2]
      have e1 : (l.take i0).filter (keepE tx) = l.take i0 := by
        rw [List.filter_eq_self]
        intro x hx
        have := h3 x hx
        unfold keepE
        simpa using this
      rw [List.getElem?_eq_getElem h2] at h4
      have e2 : keepE tx l[i0] = false := by
        unfold keepE
        simpa using h4
      rw [e1, e2]
      simp
    have HR := Lib.hid hr
    have HAD := Lib.hid had
    have HIX := Lib.hid hidx
    have HGO := Lib.hid hgo
    have HGF := Lib.hid hgf
    have HGT := Lib.hid hgt
    have HF := Lib.hid hf
    have HT := Lib.hid ht
    have HF0 := Lib.hid hfil0
    clear hr had hidx hgo hgf hgt hf ht hfil0 h3 h4 h1 hgty hi
    go_enter Tryd.func25, Tryd.ntmps25
    go_wp2_with (go_at_call 81; refine HIX.out.mono ?_; rintro x w1 ⟨rfl, hb⟩; have HB1 := Lib.hid hb; clear hb)
    go_loopw [5, 6] (fun v5 v6 wx => ∃ (i j : Nat) (ys : List S36) (wr : World), wr = wx ∧ i < j ∧ j ≤ l.length ∧ v5 = .int .i64 (i : Int) ∧ v6 = .int .i64 (j : Int) ∧ Hid (Kd.R k36 36 wr B (fun _ => True) (.slice (some ad0) l.length c) ys) ∧ Hid (ys.length = l.length ∧ ys.take i = (l.take j).filter (keepE tx) ∧ ys.drop j = l.drop j) ∧ Hid (Below B W wr ∧ Boxed wr bf 43 (fOf bt) ∧ Boxed wr bt 3 (.int .i64 tx) ∧ g < wr.heap.size)) (fun v5 v6 _ => l.length - (intOf v6).toNat)
    case atStart => exact ⟨i0, i0 + 1, l, _, rfl, by omega, by omega, rfl, by go_num, Lib.hid (Kd.R_below HR.out HB1.out), Lib.hid ⟨rfl, HF0.out.symm, rfl⟩, Lib.hid ⟨HB1.out.mono (by have := HGO.out; omega), blk_below HF.out HB1.out, blk_below HT.out HB1.out, by have h1 := HGO.out; have h2 := HB1.out.size; omega⟩⟩
    case round =>
      obtain ⟨i, j, ys, wr, hwr, hij, hj, rfl, rfl, HO, HY, HW⟩ := hrel
      subst hwr
      by_cases hlt : j < l.length
      · have hyl := HY.out.1
        obtain ⟨adE, hE, hx0, hx1, hx2, hx3⟩ := at_T36 (Kd.R_reads' HO.out).2.2 (j : Int) (by omega) (by omega)
        cases hE
        have hyj : rd_T36 ys (j : Int) = l[j] := by
          have e := congrArg (fun z => z[0]?) HY.out.2.2
          simp only [List.getElem?_drop, Nat.add_zero] at e
          unfold rd_T36
          rw [Int.toNat_natCast, List.getD_eq_getElem?_getD, e, List.getElem?_eq_getElem hlt]
          rfl
        obtain ⟨ev, hev⟩ : ∃ ev, ev = l[j] := ⟨_, rfl⟩
        rw [hyj, ← hev] at hx0 hx1 hx2 hx3
        rw [Int.toNat_natCast] at hx0 hx1 hx2 hx3
        have hfs := filter_snoc (keepE tx) l j hlt
        rw [← hev] at hfs
        have HFS := Lib.hid hfs
        clear hyj hfs
        have HEV := Lib.hid hev
        clear hev
        obtain ⟨f0, f1, f2, f3⟩ := ev
        dsimp only at hx0 hx1 hx2 hx3
        go_upto_region 8 with (first
          | ((with_reducible refine gate_dst (N := 7) rfl ?_); refine box_event ?hg (N := 7) ?hd (cs := #[.int .i64 0, .int .i64 0, .int .i64 0, .int .i64 0]) (t := 36) ?hr ?_; (case hd => rfl); (case hg => rfl); (case hr => first | (go_simp; done) | (go_simp; rfl)); intro g7 hg7 w4 hbox hb; have HX7 := Lib.hid hbox; have HB4 := Lib.hid hb; have HG7 := Lib.hid hg7; have z0 : w4.cell? ⟨g7, 0, none⟩ = some (.int .i64 0) := (blk_cell hbox 0).trans rfl; have z1 : w4.cell? ⟨g7, 1, none⟩ = some (.int .i64 0) := (blk_cell hbox 1).trans rfl; have z2 : w4.cell? ⟨g7, 2, none⟩ = some (.int .i64 0) := (blk_cell hbox 2).trans rfl; have z3 : w4.cell? ⟨g7, 3, none⟩ = some (.int .i64 0) := (blk_cell hbox 3).trans rfl; have y0 := blk_frozen hbox 0; have y1 := blk_frozen hbox 1; have y2 := blk_frozen hbox 2; have y3 := blk_frozen hbox 3; clear hbox hb hg7))
        obtain ⟨W5, hW5⟩ : ∃ W5, W5 = (((w4.setCell ⟨g7, 0, none⟩ (.int .i64 f0)).setCell ⟨g7, 1, none⟩ (.int .i64 f1)).setCell ⟨g7, 2, none⟩ (.int .i64 f2)).setCell ⟨g7, 3, none⟩ (.int .i64 f3) := ⟨_, rfl⟩
        have HX5 : Hid (W5.heap[g7]? = some (.cells #[.int .i64 f0, .int .i64 f1, .int .i64 f2, .int .i64 f3] 36 (0, 0))) := Lib.hid (by
          rw [hW5]
          have := blk_set (blk_set (blk_set (blk_set HX7.out 0 (.int .i64 f0)) 1 (.int .i64 f1)) 2 (.int .i64 f2)) 3 (.int .i64 f3)
          simpa using this)
        have HB5 : Hid (Below wr.heap.size wr W5) := Lib.hid (by
          have hle : wr.heap.size ≤ g7 := by rw [HG7.out]; exact Nat.le_refl _
          rw [hW5]
          exact (((HB4.out.setCell (p := ⟨g7, 0, none⟩) hle _).setCell (p := ⟨g7, 1, none⟩) hle _).setCell (p := ⟨g7, 2, none⟩) hle _).setCell (p := ⟨g7, 3, none⟩) hle _)
        rw [← hW5]
        have u0 : W5.cell? ⟨g7, 0, none⟩ = some (.int .i64 f0) := (blk_cell HX5.out 0).trans rfl
        have u1 : W5.cell? ⟨g7, 1, none⟩ = some (.int .i64 f1) := (blk_cell HX5.out 1).trans rfl
        have u2 : W5.cell? ⟨g7, 2, none⟩ = some (.int .i64 f2) := (blk_cell HX5.out 2).trans rfl
        have u3 : W5.cell? ⟨g7, 3, none⟩ = some (.int .i64 f3) := (blk_cell HX5.out 3).trans rfl
        clear hW5 HX7 HB4 z0 z1 z2 z3 y0 y1 y2 y3 hx0 hx1 hx2 hx3
        have HK := Lib.hid (kept_any ⟨f0, f1, f2, f3⟩ tx bf bt W5 (blk_below HW.out.2.1 HB5.out) (blk_below HW.out.2.2.1 HB5.out))
        obtain ⟨kb, hkb⟩ : ∃ b, b = (f1 == tx) := ⟨_, rfl⟩
        have hk := HK.out
        dsimp only at hk
        rw [← hkb] at hk
        have HKB := Lib.hid hkb
        clear hkb HK
        cases kb with
        | false =>
          have HK2 := Lib.hid hk
          clear hk
          go_wp2_with (go_at_call 137; refine HK2.out.mono ?_; rintro x w6 ⟨rfl, hb6⟩; have HB6 := Lib.hid (HB5.out.trans (hb6.mono HB5.out.size)); clear hb6)
          go_roundw
          case rel =>
            have hkf : keepE tx ⟨f0, f1, f2, f3⟩ = false := HKB.out.symm
            refine ⟨i, j + 1, ys, _, rfl, by omega, by omega, rfl, by go_num, Lib.hid (Kd.R_below HO.out HB6.out), Lib.hid ⟨HY.out.1, ?_, ?_⟩, Lib.hid ⟨HW.out.1.trans (HB6.out.mono (by have h1 := HW.out.1.size; have h2 := HGO.out; omega)), blk_below HW.out.2.1 HB6.out, blk_below HW.out.2.2.1 HB6.out, by have h1 := HW.out.2.2.2; have h2 := HB6.out.size; omega⟩⟩
            · have := HFS.out
              rw [hkf, if_neg Bool.false_ne_true, List.append_nil] at this
              rw [this]
              exact HY.out.2.1
            · have := congrArg List.tail HY.out.2.2
              rw [List.tail_drop, List.tail_drop] at this
              exact this
          case measure => simp [intOf]; omega
        | true =>
          have HK2 := Lib.hid hk
          clear hk
          go_wp2_with (go_at_call 137; refine HK2.out.mono ?_; rintro x w6 ⟨rfl, hb6⟩; have HB6 := Lib.hid (HB5.out.trans (hb6.mono HB5.out.size)); have HO6 := Lib.hid (Kd.R_below HO.out HB6.out); obtain ⟨⟨q0, c0⟩, ⟨q1, c1⟩, ⟨q2, c2⟩, ⟨q3, c3⟩, n0, n1, n2, n3⟩ := elE HO6.out HAD.out (show i < l.length by omega); have hq : ad0.add (i * 4) = ⟨g, i * 4, none⟩ := (by rw [HAD.out]; exact add_plain g (i * 4)); have v0 := pw_cell_below hb6 u0; have v1 := pw_cell_below hb6 u1; have v2 := pw_cell_below hb6 u2; have v3 := pw_cell_below hb6 u3; clear hb6 u0 u1 u2 u3)
          go_roundw
          case rel =>
            have hkt : keepE tx ⟨f0, f1, f2, f3⟩ = true := HKB.out.symm
            have hyl := HY.out.1
            refine ⟨i + 1, j + 1, ys.set i ⟨f0, f1, f2, f3⟩, _, rfl, by omega, by omega, by go_num, by go_num, Lib.hid (putE HO6.out HAD.out (by omega) ⟨f0, f1, f2, f3⟩), Lib.hid ⟨by rw [List.length_set]; exact hyl, ?_, ?_⟩, Lib.hid ⟨below_putE (HW.out.1.trans (HB6.out.mono (by have h1 := HW.out.1.size; have h2 := HGO.out; omega))) HGO.out.1 _ _ _ _, ?_, ?_, ?_⟩⟩
            · have := HFS.out
              rw [hkt, if_pos rfl] at this
              rw [this, ← HY.out.2.1, List.take_succ_eq_append_getElem (by rw [List.length_set]; omega), List.getElem_set_self, List.take_set_of_le (Nat.le_refl _)]
            · have := congrArg List.tail HY.out.2.2
              rw [List.tail_drop, List.tail_drop] at this
              rw [List.drop_set_of_lt (by omega)]
              exact this
            · exact (far_putE HGF.out _ _ _ _).trans (blk_below HW.out.2.1 HB6.out)
            · exact (far_putE HGT.out _ _ _ _).trans (blk_below HW.out.2.2.1 HB6.out)
            · rw [size_putE]
              have h1 := HW.out.2.2.2
              have h2 := HB6.out.size
              omega
          case measure => simp [intOf]; omega
      · obtain rfl : j = l.length := by omega
        have hil : i ≤ l.length := by omega
        have hyl := HY.out.1
        have hfin : ys.take i = l.filter (keepE tx) := by
          have := HY.out.2.1
          rw [List.take_length] at this
          exact this
        have hil2 : (i : Int) ≤ (l.length : Int) := by omega
        have hcap2 : (l.length : Int) ≤ (c : Int) := by omega
        have hlen2 : (i : Int) < (l.length : Int) := by omega
        have HFIN := Lib.hid hfin
        clear hfin
        -- clear(s[i:])
        have hrun : ∃ w9, Kd.R k36 36 w9 B (fun _ => True) (.slice (some ad0) i c) (ys.take i) ∧ Below B W w9 ∧ ∀ ty, ∀ A', A' = (if c = i then (some ad0) else (some (ad0.add (i * 4)))) → (Builtin.clear_ #[22] ty #[.slice A' (l.length - i) (c - i)]).run Tryd.prog wr = .ok (.tuple #[]) w9 := by
          have hci : c ≠ i := by omega
          have hcell : ∀ q, q < (l.length - i) * 4 → (wr.cell? ⟨g, i * 4 + q, none⟩).isSome = true ∧ wr.frozen? ⟨g, i * 4 + q, none⟩ = false := by
            intro q hq
            have hO := HO.out
            rw [HAD.out] at hO
            obtain ⟨cc, hcl, hM, hcc, hfr⟩ := Kd.R_elem hO z36 ((i + q / 4 : Nat) : Int) (by omega) (by omega)
            have hsz : k36.sz = 4 := rfl
            rw [Int.toNat_natCast, hsz] at hcc hfr
            rw [hsz] at hcl
            have e : i * 4 + q = (i + q / 4) * 4 + q % 4 := by omega
            rw [e]
            exact ⟨by rw [hcc (q % 4) _ (List.getElem?_eq_getElem (by omega))]; rfl, hfr _⟩
          obtain ⟨seg, hsl, hrun⟩ : ∃ seg : List Value, seg.length = (l.length - i) * 4 ∧ ∀ ty, (Builtin.clear_ #[22] ty #[.slice (some ⟨g, i * 4, none⟩) (l.length - i) (c - i)]).run Tryd.prog wr = .ok (.tuple #[]) (wr.setCells g (i * 4) seg) := by
            obtain ⟨seg, h1, h2⟩ := clearE wr 0 g (i * 4) (l.length - i) (c - i) (by omega) (fun q hq => (hcell q hq).1) (fun q hq => (hcell q hq).2)
            exact ⟨seg, h1, fun ty => h2⟩
          have hO := HO.out
          rw [HAD.out] at hO
          obtain ⟨hR, hG⟩ := tailE hO (m := i) (by omega) seg (by rw [hsl]; omega)
          refine ⟨wr.setCells g (i * 4) seg, by rw [HAD.out]; exact hR, ?_, ?_⟩
          · have hb := HW.out.1
            refine ⟨hG.os.trans hb.os, hG.tape.trans hb.tape, hG.output.trans hb.output, Nat.le_trans hb.size hG.size, fun k hk => ?_⟩
            have h1 := HGO.out
            have h2 := hb.size
            rw [hG.block k (by omega) (by intro he; injection he with he; omega)]
            exact hb.block k hk
          · intro ty A' hA'
            rw [if_neg hci] at hA'
            rw [hA', HAD.out, show (⟨g, 0, none⟩ : Addr).add (i * 4) = ⟨g, i * 4, none⟩ from add_plain g (i * 4)]
            exact hrun ty
        obtain ⟨w9, hR9, hB9, hrun9⟩ := hrun
        have HR9 := Lib.hid hR9
        have HB9 := Lib.hid hB9
        clear hR9 hB9
        have hr1 := fun ty => hrun9 ty (some (ad0.add (i * 4))) (by rw [if_neg (by omega)])
        clear hrun9
        go_wp2
        go_ret
        exact ⟨_, rfl, by rw [← HFIN.out]; exact HR9.out, HB9.out⟩
end Go.Proofs.YtkjkceeopkfniaaDoor.P

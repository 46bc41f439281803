/- legal.Legal, legal.Memory, legal.Own, given: what reads may see, and the memory behind a row. -/
import Derived.Test.YtkjkceeopkfniaaDoorGLMay
import Derived.Test.YtkjkceeopkfniaaDoorGMem
import Derived.Test.YtkjkceeopkfniaaDoorUTabX
import Derived.StillTailTactics
namespace Go.Proofs.YtkjkceeopkfniaaDoor.P
set_option linter.unusedVariables false
set_option linter.unusedSimpArgs false
open Go Go.RowKit Go.Proofs.YtkjkceeopkfniaaDoorW.PrintWords Go.Proofs.YtkjkceeopkfniaaDoorW.PrintLast Go.Proofs.YtkjkceeopkfniaaDoorW.PrintMore Go.Proofs.YtkjkceeopkfniaaDoor.U

theorem last_in (n : Int) (p : List S36) : lastE p n = z0 ∨ lastE p n ∈ p := by
  refine snoc_ind (P := fun p => lastE p n = z0 ∨ lastE p n ∈ p) (.inl rfl) ?_ p
  intro p e ih
  rw [lastE_snoc]
  unfold lastS
  by_cases he : e.f1 = n
  · rw [if_pos he]; exact .inr (List.mem_append_right _ List.mem_cons_self)
  · rw [if_neg he]; exact ih.imp id (List.mem_append_left _)
theorem opsR_var (n : Int) (t : List S36) : ∀ p : List S36, (∀ e ∈ p, 0 ≤ e.f2 ∧ e.f2 < 8) → (∀ e ∈ t, 0 ≤ e.f2 ∧ e.f2 < 8) → ∀ o ∈ opsR p t n, 0 ≤ o.f1 ∧ o.f1 < 8 := by
  induction t with
  | nil => intro p _ _ o ho; cases ho
  | cons e t ih =>
    intro p hp ht o ho
    have ho : o ∈ (if e.f1 = n then opsS (lastE p n) e else []) ++ opsR (p ++ [e]) t n := ho
    rcases List.mem_append.1 ho with h | h
    · have hl : 0 ≤ (lastE p n).f2 ∧ (lastE p n).f2 < 8 := by
        rcases last_in n p with h1 | h1
        · rw [h1]; exact ⟨by decide, by decide⟩
        · exact hp _ h1
      split at h
      · unfold opsS at h
        split at h
        · rw [List.mem_singleton] at h; subst h; exact hl
        · split at h
          · rw [List.mem_singleton] at h; subst h; exact hl
          · cases h
      · cases h
    · refine ih (p ++ [e]) (fun x hx => ?_) (fun x hx => ht x (List.mem_cons_of_mem _ hx)) o h
      rcases List.mem_append.1 hx with h1 | h1
      · exact hp x h1
      · rw [List.mem_singleton] at h1; subst h1; exact ht x List.mem_cons_self
theorem rights_var {l : List S36} (h : rightsB l = true) : ∀ e ∈ l, 0 ≤ e.f2 ∧ e.f2 < 8 := by
  unfold rightsB at h
  simp only [Bool.and_eq_true, Bool.not_eq_true'] at h
  intro e he
  have h1 := List.any_eq_false.1 h.2.1 e he
  have h2 : rightB e = true := by simpa using h1
  unfold rightB inB at h2
  simp only [Bool.and_eq_true, Bool.or_eq_true, beq_iff_eq, decide_eq_true_eq] at h2
  omega
theorem table_var {b : List S36} {l : List S34} (h : table_Table.f b = some (l, 0)) : ∀ i, i < l.length → ∀ o ∈ (rd_T34 l (i : Int)).f4, 0 ≤ o.f1 ∧ o.f1 < 8 := by
  have hw : whyB b = 0 ∧ l = tabT b := by
    unfold table_Table.f at h
    unfold whyB
    have h := Option.some.inj h
    by_cases hr : rightsB b = true
    · rw [if_pos hr] at h ⊢
      by_cases hn : (runI noF b : Int) < b.length
      · rw [if_pos hn] at h; exact absurd (show (6 : Int) = 0 from congrArg Prod.snd h) (by decide)
      · rw [if_neg hn] at h ⊢; exact ⟨rfl, (congrArg Prod.fst h).symm⟩
    · rw [if_neg hr] at h; exact absurd (show (1 : Int) = 0 from congrArg Prod.snd h) (by decide)
  obtain ⟨h0, rfl⟩ := hw
  intro i hi o ho
  have hm : rd_T34 (tabT b) (i : Int) ∈ tabT b := by
    unfold rd_T34
    rw [Int.toNat_natCast, List.getD_eq_getElem?_getD, List.getElem?_eq_getElem hi]
    exact List.getElem_mem hi
  rw [tab_doc h0] at hm
  obtain ⟨n, _, hn⟩ := List.mem_map.1 hm
  rw [tab_doc h0, ← hn] at ho
  exact opsR_var n b [] (fun _ h => by cases h) (rights_var (why_steps h0).1) o ho
def bitC (c i : Int) : Bool := bits .and .u32 (c / 2 ^ min i.toNat 32) 1 == 1
def goL (l : List S34) (c : Int) : List Int → List Int → Nat
  | [], _ => 0
  | i :: t, m => if ownM (rd_T34 l i).f4 m < (rd_T34 l i).f4.length then 0 else goL l c t (if bitC c i = true then withM m (rd_T34 l i).f4 else m) + 1
def memL (l : List S34) (c : Int) : List Int → List Int → List Int
  | [], m => m
  | i :: t, m => memL l c t (if bitC c i = true then withM m (rd_T34 l i).f4 else m)
def zeros : List Int := [0, 0, 0, 0, 0, 0, 0, 0]
theorem legal_int (x : Int) : intOf (.int .i64 x) = x := rfl
theorem may_in {e : Int} {n : Nat} {row : List Int} (h : mayE e n row = 0) : ∀ i (hi : i < row.length), ∃ k : Nat, row[i] = (k : Int) ∧ k < n := by
  intro i hi
  unfold mayE at h
  by_cases he : e = 0
  · rw [if_neg (by simpa using he)] at h
    by_cases ho : row.any (outB n) = true
    · rw [if_pos ho] at h; exact absurd h (by decide)
    · have h1 := List.any_eq_false.1 (by simpa using ho) row[i] (List.getElem_mem hi)
      unfold outB at h1
      simp only [Bool.or_eq_true, decide_eq_true_eq, not_or] at h1
      exact ⟨row[i].toNat, by omega, by omega⟩
  · rw [if_pos he] at h; exact absurd h he
def legal_Legal.f (l0 : List S36) (l1 : List Int) (a2 : Int) : Option (Int × Int) := if l1.length ≤ 1000 ∧ 0 ≤ a2 ∧ a2 < 4294967296 then (table_Table.f l0).bind fun t => some (if mayE t.2 t.1.length l1 = 0 then ((goL t.1 a2 l1 zeros : Nat), 0) else (0, mayE t.2 t.1.length l1)) else none
theorem may_e {e : Int} {n : Nat} {row : List Int} (h : mayE e n row = 0) : e = 0 := by
  unfold mayE at h
  by_cases he : e = 0
  · exact he
  · rw [if_pos he] at h; exact absurd h he
set_option maxHeartbeats 4000000 in
set_option maxRecDepth 100000 in
theorem legal_Legal.calls (A0 : Option Addr) (c0 : Nat) (l0 : List S36) (A1 : Option Addr) (c1 : Nat) (l1 : List Int) (a2 : Int) (r1 r2 : Int) (W : World) (hr0 : Kd.C k36 W A0 l0.length l0) (hc0 : l0.length ≤ c0) (hr1 : Kd.C (Kd.int .i64) W A1 l1.length l1) (hc1 : l1.length ≤ c1) (h : legal_Legal.f l0 l1 a2 = some (r1, r2)) (hT : KTab W) :
    Calls Tryd.prog 38 #[.slice A0 l0.length c0, .slice A1 l1.length c1, .int .u32 a2] W fun e w' => e = .returned (.tuple #[.int .i64 r1, .int .i64 r2]) ∧ Below W.heap.size W w' := by
  unfold legal_Legal.f at h
  split at h
  case isFalse => cases h
  rename_i hg
  obtain ⟨hrow, ha0, ha1⟩ := hg
  obtain ⟨⟨l, e⟩, htab⟩ : ∃ x, table_Table.f l0 = some x := ⟨_, rfl⟩
  rw [htab, Option.bind_some] at h
  dsimp only at h
  have hv := Option.some.inj h
  have hmay := may_run A0 c0 l0 A1 c1 l1 l e W hr0 hc0 hr1 hc1 hrow htab hT
  obtain ⟨m, hm⟩ : ∃ m, m = mayE e l.length l1 := ⟨_, rfl⟩
  rw [← hm] at hmay hv
  have HMAY := Lib.hid hmay
  have HR1 := Lib.hid hr1
  have HROW := Lib.hid hrow
  clear hr0 hc0 hr1 hc1 hmay hT h
  by_cases h0 : m = 0
  · have hin := may_in (hm.symm.trans h0)
    have he := may_e (hm.symm.trans h0)
    rw [he] at htab
    have hvar := table_var htab
    subst h0
    rw [if_pos rfl] at hv
    obtain ⟨hn, rfl⟩ := Prod.mk.inj hv
    have HN := Lib.hid hn
    have HIN := Lib.hid hin
    have HVAR := Lib.hid hvar
    have HA := Lib.hid (And.intro ha0 ha1)
    clear hn hin hvar hv htab he hm hrow ha0 ha1
    go_enter Tryd.func38, Tryd.ntmps38
    go_wp2_with (first
      | (go_at_call 91; refine HMAY.out.mono ?_; rintro x w2 ⟨B2, c2, rfl, hx, hb2⟩; obtain ⟨hlc, hC2⟩ := hx rfl; have HC2 := Lib.hid hC2; have HB2 := Lib.hid hb2; clear hx hb2 hC2)
      | ((with_reducible refine gate_dst (N := 10) rfl ?_); refine box_event ?hg (N := 10) ?hd (cs := #[.int .i64 0, .int .i64 0, .int .i64 0, .int .i64 0, .int .i64 0, .int .i64 0, .int .i64 0, .int .i64 0]) (t := 119) ?hr ?_; (case hd => rfl); (case hg => rfl); (case hr => first | (go_simp; done) | (go_simp; rfl)); intro g hg w3 hbox hb; have HX3 := Lib.hid (show w3.heap[g]? = some (.cells (arrV zeros) 119 (0, 0)) from hbox); have HB3 := Lib.hid (HB2.out.trans (hb.mono HB2.out.size)); have HB23 := Lib.hid hb; have HG := Lib.hid (show W.heap.size ≤ g ∧ w2.heap.size ≤ g from by rw [hg]; exact ⟨HB2.out.size, Nat.le_refl _⟩); clear hbox hb hg))
    go_loopw [25] (fun v25 wr => ∃ (k : Nat) (mk : List Int) (wq : World), wq = wr ∧ k ≤ l1.length ∧ v25 = .int .i64 (k : Int) ∧ Hid (mk.length = 8) ∧ Hid (r1 = ((k + goL l a2 (l1.drop k) mk : Nat) : Int)) ∧ Hid (wq.heap[g]? = some (.cells (arrV mk) 119 (0, 0))) ∧ Hid (Below W.heap.size W wq) ∧ Hid (Below w2.heap.size w2 wq)) (fun v25 _ => l1.length - (intOf v25).toNat)
    case atStart => exact ⟨0, zeros, _, rfl, Nat.zero_le _, rfl, Lib.hid rfl, Lib.hid (by rw [List.drop_zero, Nat.zero_add]; exact HN.out.symm), HX3, HB3, HB23⟩
    case round =>
      obtain ⟨k, mk, wr, hwr, hk, rfl, HL, HI, HX, HB, HBR⟩ := hrel
      subst hwr
      clear HN HX3 HB3 HB23
      by_cases hlt : k < l1.length
      · obtain ⟨ad, rfl, hcell⟩ := Kd.at_int (Kd.C_below HR1.out HB.out) (k : Int) (by omega) (by omega)
        rw [Int.toNat_natCast, rdI l1 k hlt] at hcell
        obtain ⟨i, hi, hil⟩ := HIN.out k hlt
        have hI := HI.out
        rw [List.drop_eq_getElem_cons hlt] at hI
        unfold goL at hI
        rw [hi] at hcell hI
        obtain ⟨bd, A4, c4, rfl, _, _, _, _, hx4, hxc, hxC⟩ := at_T34 (Kd.C_below HC2.out HBR.out) (i : Int) (by omega) (by omega)
        have hvr := HVAR.out i hil
        obtain ⟨ops, hops⟩ : ∃ ops, ops = (rd_T34 l (i : Int)).f4 := ⟨_, rfl⟩
        rw [← hops] at hx4 hxc hxC hvr hI
        rw [Int.toNat_natCast] at hx4
        obtain ⟨a0, a1, a2', a3, a4, a5, a6, a7, hmk⟩ := len8 HL.out
        have hown := own_run A4 c4 ops mk wr hxC HL.out hvr
        obtain ⟨ow, how⟩ : ∃ ow, ow = ownM ops mk := ⟨_, rfl⟩
        rw [← how] at hown hI
        subst hmk
        rw [show arrV [a0, a1, a2', a3, a4, a5, a6, a7] = #[.int .i64 a0, .int .i64 a1, .int .i64 a2', .int .i64 a3, .int .i64 a4, .int .i64 a5, .int .i64 a6, .int .i64 a7] from rfl] at hown
        have HOWN := Lib.hid hown
        have HXC := Lib.hid hxC
        have HVR := Lib.hid hvr
        have HII := Lib.hid hI
        have HLT := Lib.hid hlt
        have q1 : (i : Int) < (l.length : Int) := by omega
        have q2 : (0 : Int) ≤ (i : Int) := by omega
        have q3 : (k : Int) < (l1.length : Int) := by omega
        have y0 : wr.cell? ⟨g, 0, none⟩ = some (.int .i64 a0) := (blk_cell HX.out 0).trans rfl
        have y1 : wr.cell? ⟨g, 1, none⟩ = some (.int .i64 a1) := (blk_cell HX.out 1).trans rfl
        have y2 : wr.cell? ⟨g, 2, none⟩ = some (.int .i64 a2') := (blk_cell HX.out 2).trans rfl
        have y3 : wr.cell? ⟨g, 3, none⟩ = some (.int .i64 a3) := (blk_cell HX.out 3).trans rfl
        have y4 : wr.cell? ⟨g, 4, none⟩ = some (.int .i64 a4) := (blk_cell HX.out 4).trans rfl
        have y5 : wr.cell? ⟨g, 5, none⟩ = some (.int .i64 a5) := (blk_cell HX.out 5).trans rfl
        have y6 : wr.cell? ⟨g, 6, none⟩ = some (.int .i64 a6) := (blk_cell HX.out 6).trans rfl
        have y7 : wr.cell? ⟨g, 7, none⟩ = some (.int .i64 a7) := (blk_cell HX.out 7).trans rfl
        clear hown hvr hI HI hops how hi hlt hxC
        by_cases how2 : ow < ops.length
        · have d1 : decide (ow < ops.length) = true := decide_eq_true how2
          have d2 : decide ((ow : Int) < (ops.length : Int)) = true := decide_eq_true (by omega)
          have hI2 := HII.out
          rw [if_pos how2] at hI2
          have HI2 := Lib.hid hI2
          clear hI2 how2
          go_wp2_with (first
            | (go_at_call 87; refine HOWN.out.mono ?_; rintro x w4 ⟨rfl, hb4⟩; have HB4 := Lib.hid (HB.out.trans (hb4.mono HB.out.size)); clear hb4))
          go_ret2
          exact ⟨by rw [HI2.out]; rfl, HB4.out⟩
        · have d1 : decide (ow < ops.length) = false := decide_eq_false how2
          have d2 : decide ((ow : Int) < (ops.length : Int)) = false := decide_eq_false (by omega)
          have hI2 := HII.out
          rw [if_neg how2] at hI2
          have HI2 := Lib.hid hI2
          clear hI2 how2
          have hwith := fun w (hb : Below wr.heap.size wr w) => with_run A4 c4 ops [a0, a1, a2', a3, a4, a5, a6, a7] w (Kd.C_below HXC.out hb) rfl HVR.out
          obtain ⟨b0, b1, b2, b3, b4, b5, b6, b7, hb8⟩ := len8 ((withM_len ops [a0, a1, a2', a3, a4, a5, a6, a7]).trans rfl)
          rw [hb8] at hwith
          rw [show arrV [b0, b1, b2, b3, b4, b5, b6, b7] = #[.int .i64 b0, .int .i64 b1, .int .i64 b2, .int .i64 b3, .int .i64 b4, .int .i64 b5, .int .i64 b6, .int .i64 b7] from rfl, show arrV [a0, a1, a2', a3, a4, a5, a6, a7] = #[.int .i64 a0, .int .i64 a1, .int .i64 a2', .int .i64 a3, .int .i64 a4, .int .i64 a5, .int .i64 a6, .int .i64 a7] from rfl] at hwith
          have HWITH := Lib.hid hwith
          have HB8 := Lib.hid hb8
          have hle1 : k + 1 ≤ l1.length := HLT.out
          have hst : wrap64 ((k : Int) + 1) = (k : Int) + 1 := w64 (by omega) (by have := HROW.out; omega)
          have HLE := Lib.hid hle1
          have HCA := Lib.hid (show Value.int .i64 (wrap64 ((k : Int) + 1)) = .int .i64 ((k + 1 : Nat) : Int) from by rw [hst]; exact congrArg _ (Int.natCast_succ k).symm)
          have HST := Lib.hid hst
          obtain ⟨q, hq⟩ : ∃ q, q = bitC a2 (i : Int) := ⟨_, rfl⟩
          have hq1 : (bits .and .u32 (a2 / 2 ^ min i 32) 1 == 1) = q := hq.symm
          have hI3 := HI2.out
          rw [← hq] at hI3
          have HI3 := Lib.hid hI3
          clear hwith hb8 hle1 hst hI3 hq HI2 hk
          cases q with
          | true =>
            go_wp2_with (first
              | (go_at_call 87; refine HOWN.out.mono ?_; rintro x w4 ⟨rfl, hb4⟩; have HX4 := Lib.hid (blk_below HX.out hb4); have HB4 := Lib.hid hb4; have x0 : w4.cell? ⟨g, 0, none⟩ = some (.int .i64 a0) := (blk_cell HX4.out 0).trans rfl; have x1 : w4.cell? ⟨g, 1, none⟩ = some (.int .i64 a1) := (blk_cell HX4.out 1).trans rfl; have x2 : w4.cell? ⟨g, 2, none⟩ = some (.int .i64 a2') := (blk_cell HX4.out 2).trans rfl; have x3 : w4.cell? ⟨g, 3, none⟩ = some (.int .i64 a3) := (blk_cell HX4.out 3).trans rfl; have x4 : w4.cell? ⟨g, 4, none⟩ = some (.int .i64 a4) := (blk_cell HX4.out 4).trans rfl; have x5 : w4.cell? ⟨g, 5, none⟩ = some (.int .i64 a5) := (blk_cell HX4.out 5).trans rfl; have x6 : w4.cell? ⟨g, 6, none⟩ = some (.int .i64 a6) := (blk_cell HX4.out 6).trans rfl; have x7 : w4.cell? ⟨g, 7, none⟩ = some (.int .i64 a7) := (blk_cell HX4.out 7).trans rfl; clear hb4)
              | (go_at_call 92; refine (HWITH.out _ HB4.out).mono ?_; rintro x w5 ⟨rfl, hb5⟩; have HX5 := Lib.hid (blk_below HX4.out hb5); have HB5 := Lib.hid (HB4.out.trans (hb5.mono HB4.out.size)); have z0 : w5.cell? ⟨g, 0, none⟩ = some (.int .i64 a0) := (blk_cell HX5.out 0).trans rfl; have f0 : w5.frozen? ⟨g, 0, none⟩ = false := blk_frozen HX5.out 0; have z1 : w5.cell? ⟨g, 1, none⟩ = some (.int .i64 a1) := (blk_cell HX5.out 1).trans rfl; have f1 : w5.frozen? ⟨g, 1, none⟩ = false := blk_frozen HX5.out 1; have z2 : w5.cell? ⟨g, 2, none⟩ = some (.int .i64 a2') := (blk_cell HX5.out 2).trans rfl; have f2 : w5.frozen? ⟨g, 2, none⟩ = false := blk_frozen HX5.out 2; have z3 : w5.cell? ⟨g, 3, none⟩ = some (.int .i64 a3) := (blk_cell HX5.out 3).trans rfl; have f3 : w5.frozen? ⟨g, 3, none⟩ = false := blk_frozen HX5.out 3; have z4 : w5.cell? ⟨g, 4, none⟩ = some (.int .i64 a4) := (blk_cell HX5.out 4).trans rfl; have f4 : w5.frozen? ⟨g, 4, none⟩ = false := blk_frozen HX5.out 4; have z5 : w5.cell? ⟨g, 5, none⟩ = some (.int .i64 a5) := (blk_cell HX5.out 5).trans rfl; have f5 : w5.frozen? ⟨g, 5, none⟩ = false := blk_frozen HX5.out 5; have z6 : w5.cell? ⟨g, 6, none⟩ = some (.int .i64 a6) := (blk_cell HX5.out 6).trans rfl; have f6 : w5.frozen? ⟨g, 6, none⟩ = false := blk_frozen HX5.out 6; have z7 : w5.cell? ⟨g, 7, none⟩ = some (.int .i64 a7) := (blk_cell HX5.out 7).trans rfl; have f7 : w5.frozen? ⟨g, 7, none⟩ = false := blk_frozen HX5.out 7; clear hb5))
            go_roundw
            case rel => exact ⟨k + 1, [b0, b1, b2, b3, b4, b5, b6, b7], _, rfl, HLE.out, HCA.out, Lib.hid rfl, Lib.hid (by have h9 := HI3.out; rw [if_pos trivial, HB8.out] at h9; rw [h9]; omega), Lib.hid ((show _ = _ from (blk_set (blk_set (blk_set (blk_set (blk_set (blk_set (blk_set (blk_set HX5.out 0 (.int .i64 b0)) 1 (.int .i64 b1)) 2 (.int .i64 b2)) 3 (.int .i64 b3)) 4 (.int .i64 b4)) 5 (.int .i64 b5)) 6 (.int .i64 b6)) 7 (.int .i64 b7))).trans (by simp [arrV])), Lib.hid (((((((((HB.out.trans (HB5.out.mono HB.out.size)).setCell (p := ⟨g, 0, none⟩) HG.out.1 (.int .i64 b0)).setCell (p := ⟨g, 1, none⟩) HG.out.1 (.int .i64 b1)).setCell (p := ⟨g, 2, none⟩) HG.out.1 (.int .i64 b2)).setCell (p := ⟨g, 3, none⟩) HG.out.1 (.int .i64 b3)).setCell (p := ⟨g, 4, none⟩) HG.out.1 (.int .i64 b4)).setCell (p := ⟨g, 5, none⟩) HG.out.1 (.int .i64 b5)).setCell (p := ⟨g, 6, none⟩) HG.out.1 (.int .i64 b6)).setCell (p := ⟨g, 7, none⟩) HG.out.1 (.int .i64 b7)), Lib.hid (((((((((HBR.out.trans (HB5.out.mono HBR.out.size)).setCell (p := ⟨g, 0, none⟩) HG.out.2 (.int .i64 b0)).setCell (p := ⟨g, 1, none⟩) HG.out.2 (.int .i64 b1)).setCell (p := ⟨g, 2, none⟩) HG.out.2 (.int .i64 b2)).setCell (p := ⟨g, 3, none⟩) HG.out.2 (.int .i64 b3)).setCell (p := ⟨g, 4, none⟩) HG.out.2 (.int .i64 b4)).setCell (p := ⟨g, 5, none⟩) HG.out.2 (.int .i64 b5)).setCell (p := ⟨g, 6, none⟩) HG.out.2 (.int .i64 b6)).setCell (p := ⟨g, 7, none⟩) HG.out.2 (.int .i64 b7))⟩
            case measure => have h1 := HLE.out; have h2 := HST.out; simp only [legal_int, h2]; clear h2; omega
          | false =>
            go_wp2_with (first
              | (go_at_call 87; refine HOWN.out.mono ?_; rintro x w4 ⟨rfl, hb4⟩; have HX4 := Lib.hid (blk_below HX.out hb4); have HB4 := Lib.hid hb4; have x0 : w4.cell? ⟨g, 0, none⟩ = some (.int .i64 a0) := (blk_cell HX4.out 0).trans rfl; have x1 : w4.cell? ⟨g, 1, none⟩ = some (.int .i64 a1) := (blk_cell HX4.out 1).trans rfl; have x2 : w4.cell? ⟨g, 2, none⟩ = some (.int .i64 a2') := (blk_cell HX4.out 2).trans rfl; have x3 : w4.cell? ⟨g, 3, none⟩ = some (.int .i64 a3) := (blk_cell HX4.out 3).trans rfl; have x4 : w4.cell? ⟨g, 4, none⟩ = some (.int .i64 a4) := (blk_cell HX4.out 4).trans rfl; have x5 : w4.cell? ⟨g, 5, none⟩ = some (.int .i64 a5) := (blk_cell HX4.out 5).trans rfl; have x6 : w4.cell? ⟨g, 6, none⟩ = some (.int .i64 a6) := (blk_cell HX4.out 6).trans rfl; have x7 : w4.cell? ⟨g, 7, none⟩ = some (.int .i64 a7) := (blk_cell HX4.out 7).trans rfl; clear hb4))
            go_roundw
            case rel => exact ⟨k + 1, [a0, a1, a2', a3, a4, a5, a6, a7], _, rfl, HLE.out, HCA.out, Lib.hid rfl, Lib.hid (by have h9 := HI3.out; rw [if_neg Bool.false_ne_true] at h9; rw [h9]; omega), HX4, Lib.hid (HB.out.trans (HB4.out.mono HB.out.size)), Lib.hid (HBR.out.trans (HB4.out.mono HBR.out.size))⟩
            case measure => have h1 := HLE.out; have h2 := HST.out; simp only [legal_int, h2]; clear h2; omega
      · obtain rfl : k = l1.length := by omega
        have e1 := HI.out
        rw [List.drop_length] at e1
        have e2 : r1 = ((l1.length : Nat) : Int) := e1
        have E2 := Lib.hid e2
        clear e1 e2 HI hlt hk
        go_wp2
        go_ret2
        exact ⟨by rw [E2.out]; rfl, HB.out⟩
  · rw [if_neg h0] at hv
    obtain ⟨rfl, rfl⟩ := Prod.mk.inj hv
    have m1 : (m != 0) = true := bne_iff_ne.2 h0
    have m2 : (m == 0) = false := beq_eq_false_iff_ne.2 h0
    have hmay2 := HMAY.out
    simp only [if_neg h0] at hmay2
    have HMAY2 := Lib.hid hmay2
    clear hv htab hm hrow ha0 ha1 h0 hmay2
    go_enter Tryd.func38, Tryd.ntmps38
    go_wp2_with (first
      | (go_at_call 91; refine HMAY2.out.mono ?_; rintro x w2 ⟨B2, c2, rfl, _, hb2⟩; have HB2 := Lib.hid hb2; clear hb2))
    go_ret2
    exact ⟨rfl, HB2.out⟩
def legal_Memory.f (l0 : List S36) (l1 : List Int) (a2 : Int) : Option (List Int × Int) := if l1.length ≤ 1000 ∧ 0 ≤ a2 ∧ a2 < 4294967296 then (table_Table.f l0).bind fun t => some (if mayE t.2 t.1.length l1 = 0 then (memL t.1 a2 l1 zeros, 0) else ([], mayE t.2 t.1.length l1)) else none
set_option maxHeartbeats 4000000 in
set_option maxRecDepth 100000 in
theorem legal_Memory.calls (A0 : Option Addr) (c0 : Nat) (l0 : List S36) (A1 : Option Addr) (c1 : Nat) (l1 : List Int) (a2 : Int) (r1 : List Int) (r2 : Int) (W : World) (hr0 : Kd.C k36 W A0 l0.length l0) (hc0 : l0.length ≤ c0) (hr1 : Kd.C (Kd.int .i64) W A1 l1.length l1) (hc1 : l1.length ≤ c1) (h : legal_Memory.f l0 l1 a2 = some (r1, r2)) (hT : KTab W) :
    Calls Tryd.prog 39 #[.slice A0 l0.length c0, .slice A1 l1.length c1, .int .u32 a2] W fun e w' => ∃ v, e = .returned (.tuple #[v, .int .i64 r2]) ∧ Kd.R (Kd.int .i64) 119 w' W.heap.size (fun _ => True) v r1 ∧ Below W.heap.size W w' := by
  unfold legal_Memory.f at h
  split at h
  case isFalse => cases h
  rename_i hg
  obtain ⟨hrow, ha0, ha1⟩ := hg
  obtain ⟨⟨l, e⟩, htab⟩ : ∃ x, table_Table.f l0 = some x := ⟨_, rfl⟩
  rw [htab, Option.bind_some] at h
  dsimp only at h
  have hv := Option.some.inj h
  have hmay := may_run A0 c0 l0 A1 c1 l1 l e W hr0 hc0 hr1 hc1 hrow htab hT
  obtain ⟨m, hm⟩ : ∃ m, m = mayE e l.length l1 := ⟨_, rfl⟩
  rw [← hm] at hmay hv
  have HMAY := Lib.hid hmay
  have HR1 := Lib.hid hr1
  have HROW := Lib.hid hrow
  clear hr0 hc0 hr1 hc1 hmay hT h
  by_cases h0 : m = 0
  · have hin := may_in (hm.symm.trans h0)
    have he := may_e (hm.symm.trans h0)
    rw [he] at htab
    have hvar := table_var htab
    subst h0
    rw [if_pos rfl] at hv
    obtain ⟨hn, rfl⟩ := Prod.mk.inj hv
    have HN := Lib.hid hn
    have HIN := Lib.hid hin
    have HVAR := Lib.hid hvar
    have HA := Lib.hid (And.intro ha0 ha1)
    clear hn hin hvar hv htab he hm hrow ha0 ha1
    go_enter Tryd.func39, Tryd.ntmps39
    go_wp2_with (first
      | (go_at_call 91; refine HMAY.out.mono ?_; rintro x w2 ⟨B2, c2, rfl, hx, hb2⟩; obtain ⟨hlc, hC2⟩ := hx rfl; have HC2 := Lib.hid hC2; have HB2 := Lib.hid hb2; clear hx hb2 hC2)
      | ((with_reducible refine gate_dst (N := 10) rfl ?_); refine box_event ?hg (N := 10) ?hd (cs := #[.int .i64 0, .int .i64 0, .int .i64 0, .int .i64 0, .int .i64 0, .int .i64 0, .int .i64 0, .int .i64 0]) (t := 119) ?hr ?_; (case hd => rfl); (case hg => rfl); (case hr => first | (go_simp; done) | (go_simp; rfl)); intro g hg w3 hbox hb; have HX3 := Lib.hid (show w3.heap[g]? = some (.cells (arrV zeros) 119 (0, 0)) from hbox); have HB3 := Lib.hid (HB2.out.trans (hb.mono HB2.out.size)); have HB23 := Lib.hid hb; have HG := Lib.hid (show W.heap.size ≤ g ∧ w2.heap.size ≤ g from by rw [hg]; exact ⟨HB2.out.size, Nat.le_refl _⟩); clear hbox hb hg))
    go_loopw [24] (fun v24 wr => ∃ (k : Nat) (mk : List Int) (wq : World), wq = wr ∧ k ≤ l1.length ∧ v24 = .int .i64 (k : Int) ∧ Hid (mk.length = 8) ∧ Hid (r1 = memL l a2 (l1.drop k) mk) ∧ Hid (wq.heap[g]? = some (.cells (arrV mk) 119 (0, 0))) ∧ Hid (Below W.heap.size W wq) ∧ Hid (Below w2.heap.size w2 wq)) (fun v24 _ => l1.length - (intOf v24).toNat)
    case atStart => exact ⟨0, zeros, _, rfl, Nat.zero_le _, rfl, Lib.hid rfl, Lib.hid (by rw [List.drop_zero]; exact HN.out.symm), HX3, HB3, HB23⟩
    case round =>
      obtain ⟨k, mk, wr, hwr, hk, rfl, HL, HI, HX, HB, HBR⟩ := hrel
      subst hwr
      clear HN HX3 HB3 HB23
      by_cases hlt : k < l1.length
      · obtain ⟨ad, rfl, hcell⟩ := Kd.at_int (Kd.C_below HR1.out HB.out) (k : Int) (by omega) (by omega)
        rw [Int.toNat_natCast, rdI l1 k hlt] at hcell
        obtain ⟨i, hi, hil⟩ := HIN.out k hlt
        have hI := HI.out
        rw [List.drop_eq_getElem_cons hlt] at hI
        unfold memL at hI
        rw [hi] at hcell hI
        obtain ⟨bd, A4, c4, rfl, _, _, _, _, hx4, hxc, hxC⟩ := at_T34 (Kd.C_below HC2.out HBR.out) (i : Int) (by omega) (by omega)
        have hvr := HVAR.out i hil
        obtain ⟨ops, hops⟩ : ∃ ops, ops = (rd_T34 l (i : Int)).f4 := ⟨_, rfl⟩
        rw [← hops] at hx4 hxc hxC hvr hI
        rw [Int.toNat_natCast] at hx4
        obtain ⟨a0, a1, a2', a3, a4, a5, a6, a7, hmk⟩ := len8 HL.out
        subst hmk
        have HXC := Lib.hid hxC
        have HVR := Lib.hid hvr
        have HLT := Lib.hid hlt
        have q1 : (i : Int) < (l.length : Int) := by omega
        have q2 : (0 : Int) ≤ (i : Int) := by omega
        have q3 : (k : Int) < (l1.length : Int) := by omega
        have y0 : wr.cell? ⟨g, 0, none⟩ = some (.int .i64 a0) := (blk_cell HX.out 0).trans rfl
        have y1 : wr.cell? ⟨g, 1, none⟩ = some (.int .i64 a1) := (blk_cell HX.out 1).trans rfl
        have y2 : wr.cell? ⟨g, 2, none⟩ = some (.int .i64 a2') := (blk_cell HX.out 2).trans rfl
        have y3 : wr.cell? ⟨g, 3, none⟩ = some (.int .i64 a3) := (blk_cell HX.out 3).trans rfl
        have y4 : wr.cell? ⟨g, 4, none⟩ = some (.int .i64 a4) := (blk_cell HX.out 4).trans rfl
        have y5 : wr.cell? ⟨g, 5, none⟩ = some (.int .i64 a5) := (blk_cell HX.out 5).trans rfl
        have y6 : wr.cell? ⟨g, 6, none⟩ = some (.int .i64 a6) := (blk_cell HX.out 6).trans rfl
        have y7 : wr.cell? ⟨g, 7, none⟩ = some (.int .i64 a7) := (blk_cell HX.out 7).trans rfl
        clear hvr HI hops hi hlt hxC
        have hwith := fun w (hb : Below wr.heap.size wr w) => with_run A4 c4 ops [a0, a1, a2', a3, a4, a5, a6, a7] w (Kd.C_below HXC.out hb) rfl HVR.out
        obtain ⟨b0, b1, b2, b3, b4, b5, b6, b7, hb8⟩ := len8 ((withM_len ops [a0, a1, a2', a3, a4, a5, a6, a7]).trans rfl)
        rw [hb8] at hwith
        rw [show arrV [b0, b1, b2, b3, b4, b5, b6, b7] = #[.int .i64 b0, .int .i64 b1, .int .i64 b2, .int .i64 b3, .int .i64 b4, .int .i64 b5, .int .i64 b6, .int .i64 b7] from rfl, show arrV [a0, a1, a2', a3, a4, a5, a6, a7] = #[.int .i64 a0, .int .i64 a1, .int .i64 a2', .int .i64 a3, .int .i64 a4, .int .i64 a5, .int .i64 a6, .int .i64 a7] from rfl] at hwith
        have HWITH := Lib.hid hwith
        have HB8 := Lib.hid hb8
        have hle1 : k + 1 ≤ l1.length := HLT.out
        have hst : wrap64 ((k : Int) + 1) = (k : Int) + 1 := w64 (by omega) (by have := HROW.out; omega)
        have HLE := Lib.hid hle1
        have HCA := Lib.hid (show Value.int .i64 (wrap64 ((k : Int) + 1)) = .int .i64 ((k + 1 : Nat) : Int) from by rw [hst]; exact congrArg _ (Int.natCast_succ k).symm)
        have HST := Lib.hid hst
        obtain ⟨q, hq⟩ : ∃ q, q = bitC a2 (i : Int) := ⟨_, rfl⟩
        have hq1 : (bits .and .u32 (a2 / 2 ^ min i 32) 1 == 1) = q := hq.symm
        have hI3 := hI
        rw [← hq] at hI3
        have HI3 := Lib.hid hI3
        clear hwith hb8 hle1 hst hI3 hI hq hk
        cases q with
        | true =>
          go_upto_region 9 with (fail)
          go_still_tail 6, (by kernel_rfl)
          change wpList _ _ _ _ _ wr.drew
          have HBd : Hid (Below wr.heap.size wr wr.drew) := Lib.hid (below_drew (Below.refl _ _))
          have HXd := Lib.hid (blk_below HX.out HBd.out)
          obtain ⟨wd, hwd⟩ : ∃ wd, wd = wr.drew := ⟨_, rfl⟩
          rw [← hwd] at HBd HXd ⊢
          clear hwd
          go_wp2_with (first
            | (go_at_call 92; refine (HWITH.out _ HBd.out).mono ?_; rintro x w5 ⟨rfl, hb5⟩; have HX5 := Lib.hid (blk_below HXd.out hb5); have HB5 := Lib.hid (HBd.out.trans (hb5.mono HBd.out.size)); have z0 : w5.cell? ⟨g, 0, none⟩ = some (.int .i64 a0) := (blk_cell HX5.out 0).trans rfl; have f0 : w5.frozen? ⟨g, 0, none⟩ = false := blk_frozen HX5.out 0; have z1 : w5.cell? ⟨g, 1, none⟩ = some (.int .i64 a1) := (blk_cell HX5.out 1).trans rfl; have f1 : w5.frozen? ⟨g, 1, none⟩ = false := blk_frozen HX5.out 1; have z2 : w5.cell? ⟨g, 2, none⟩ = some (.int .i64 a2') := (blk_cell HX5.out 2).trans rfl; have f2 : w5.frozen? ⟨g, 2, none⟩ = false := blk_frozen HX5.out 2; have z3 : w5.cell? ⟨g, 3, none⟩ = some (.int .i64 a3) := (blk_cell HX5.out 3).trans rfl; have f3 : w5.frozen? ⟨g, 3, none⟩ = false := blk_frozen HX5.out 3; have z4 : w5.cell? ⟨g, 4, none⟩ = some (.int .i64 a4) := (blk_cell HX5.out 4).trans rfl; have f4 : w5.frozen? ⟨g, 4, none⟩ = false := blk_frozen HX5.out 4; have z5 : w5.cell? ⟨g, 5, none⟩ = some (.int .i64 a5) := (blk_cell HX5.out 5).trans rfl; have f5 : w5.frozen? ⟨g, 5, none⟩ = false := blk_frozen HX5.out 5; have z6 : w5.cell? ⟨g, 6, none⟩ = some (.int .i64 a6) := (blk_cell HX5.out 6).trans rfl; have f6 : w5.frozen? ⟨g, 6, none⟩ = false := blk_frozen HX5.out 6; have z7 : w5.cell? ⟨g, 7, none⟩ = some (.int .i64 a7) := (blk_cell HX5.out 7).trans rfl; have f7 : w5.frozen? ⟨g, 7, none⟩ = false := blk_frozen HX5.out 7; clear hb5))
          go_roundw
          case rel => exact ⟨k + 1, [b0, b1, b2, b3, b4, b5, b6, b7], _, rfl, HLE.out, HCA.out, Lib.hid rfl, Lib.hid (by have h9 := HI3.out; rw [if_pos (by first | trivial | rfl), HB8.out] at h9; exact h9), Lib.hid ((show _ = _ from (blk_set (blk_set (blk_set (blk_set (blk_set (blk_set (blk_set (blk_set HX5.out 0 (.int .i64 b0)) 1 (.int .i64 b1)) 2 (.int .i64 b2)) 3 (.int .i64 b3)) 4 (.int .i64 b4)) 5 (.int .i64 b5)) 6 (.int .i64 b6)) 7 (.int .i64 b7))).trans (by simp [arrV])), Lib.hid (((((((((HB.out.trans (HB5.out.mono HB.out.size)).setCell (p := ⟨g, 0, none⟩) HG.out.1 (.int .i64 b0)).setCell (p := ⟨g, 1, none⟩) HG.out.1 (.int .i64 b1)).setCell (p := ⟨g, 2, none⟩) HG.out.1 (.int .i64 b2)).setCell (p := ⟨g, 3, none⟩) HG.out.1 (.int .i64 b3)).setCell (p := ⟨g, 4, none⟩) HG.out.1 (.int .i64 b4)).setCell (p := ⟨g, 5, none⟩) HG.out.1 (.int .i64 b5)).setCell (p := ⟨g, 6, none⟩) HG.out.1 (.int .i64 b6)).setCell (p := ⟨g, 7, none⟩) HG.out.1 (.int .i64 b7)), Lib.hid (((((((((HBR.out.trans (HB5.out.mono HBR.out.size)).setCell (p := ⟨g, 0, none⟩) HG.out.2 (.int .i64 b0)).setCell (p := ⟨g, 1, none⟩) HG.out.2 (.int .i64 b1)).setCell (p := ⟨g, 2, none⟩) HG.out.2 (.int .i64 b2)).setCell (p := ⟨g, 3, none⟩) HG.out.2 (.int .i64 b3)).setCell (p := ⟨g, 4, none⟩) HG.out.2 (.int .i64 b4)).setCell (p := ⟨g, 5, none⟩) HG.out.2 (.int .i64 b5)).setCell (p := ⟨g, 6, none⟩) HG.out.2 (.int .i64 b6)).setCell (p := ⟨g, 7, none⟩) HG.out.2 (.int .i64 b7))⟩
          case measure => have h1 := HLE.out; have h2 := HST.out; simp only [legal_int, h2]; clear h2; omega
        | false =>
          go_wp2
          go_roundw
          case rel => exact ⟨k + 1, [a0, a1, a2', a3, a4, a5, a6, a7], _, rfl, HLE.out, HCA.out, Lib.hid rfl, Lib.hid (by have h9 := HI3.out; rw [if_neg Bool.false_ne_true] at h9; exact h9), HX, HB, HBR⟩
          case measure => have h1 := HLE.out; have h2 := HST.out; simp only [legal_int, h2]; clear h2; omega
      · obtain rfl : k = l1.length := by omega
        have e1 := HI.out
        rw [List.drop_length] at e1
        have e2 : r1 = mk := e1
        subst e2
        obtain ⟨a0, a1, a2', a3, a4, a5, a6, a7, hmk⟩ := len8 HL.out
        subst hmk
        clear e1 HI hlt hk
        go_wp2
        go_ret2
        refine ⟨_, rfl, Kd.R_of_own ?_ (fun _ _ => trivial), HB.out⟩
        exact ⟨rfl, .inr ⟨g, 8, arrV [a0, a1, a2', a3, a4, a5, a6, a7], rfl, HG.out.1, HX.out, Nat.le_refl _, by simp [maxLen], rfl, rfl⟩⟩
  · rw [if_neg h0] at hv
    obtain ⟨rfl, rfl⟩ := Prod.mk.inj hv
    have m1 : (m != 0) = true := bne_iff_ne.2 h0
    have m2 : (m == 0) = false := beq_eq_false_iff_ne.2 h0
    have hmay2 := HMAY.out
    simp only [if_neg h0] at hmay2
    have HMAY2 := Lib.hid hmay2
    clear hv htab hm hrow ha0 ha1 h0 hmay2
    go_enter Tryd.func39, Tryd.ntmps39
    go_wp2_with (first
      | (go_at_call 91; refine HMAY2.out.mono ?_; rintro x w2 ⟨B2, c2, rfl, _, hb2⟩; have HB2 := Lib.hid hb2; clear hb2))
    go_ret2
    exact ⟨_, rfl, Kd.R_nil _ _ _ _ _, HB2.out⟩
end Go.Proofs.YtkjkceeopkfniaaDoor.P

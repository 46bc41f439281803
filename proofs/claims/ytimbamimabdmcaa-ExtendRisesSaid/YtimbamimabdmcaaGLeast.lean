/- cycle.Least, given. -/
import Derived.Test.YtimbamimabdmcaaGWay
import Derived.Test.YtimbamimabdmcaaGCWalk
import Derived.Test.YtimbamimabdmcaaGClone
import Derived.Deep.RegionWith
import Derived.Deep.DeepCutAuto
namespace Go.Proofs.Ytimbamimabdmcaa.P
set_option linter.unusedVariables false
set_option linter.unusedSimpArgs false
open Go Go.RowKit Go.Proofs.YtimbamimabdmcaaW.PrintWords Go.Proofs.YtimbamimabdmcaaW.PrintLast Go.Proofs.YtimbamimabdmcaaW.PrintMore

def okWay (n : Nat) (p : List Int) : Bool := decide (0 < p.length ∧ p.length ≤ 6) && p.all (fun x => decide (0 ≤ x ∧ x < n))
def edgeB (l0 : List Int) (p : List Int) (k : Nat) : Bool := bitAt (rd l0 (p.getLastD 0)) k == 1
def exts (l0 p : List Int) (ks : List Nat) : List (List Int) := (ks.filter fun (k : Nat) => edgeB l0 p k && !p.contains (k : Int)).map fun (k : Nat) => p ++ [(k : Int)]
def bfs (l0 : List Int) : Nat → List (List Int) → Option (List Int × Int)
  | 0, _ => none
  | _ + 1, [] => some ([], 7)
  | f + 1, p :: q => if okWay l0.length p = true ∧ q.length + 6 ≤ 10000000 then (if edgeB l0 p (p.getD 0 0).toNat = true then some (p, 0) else if p.length < 6 ∨ exts l0 p (List.range l0.length) = [] then bfs l0 f (q ++ exts l0 p (List.range l0.length)) else none) else none
def ones (n : Nat) : List (List Int) := (List.range n).map fun (i : Nat) => [(i : Int)]
def cycle_Least.f (l0 : List Int) : Option (List Int × Int) := if (∀ x ∈ l0, 0 ≤ x ∧ x < 4294967296) then (if mayB l0 = true then bfs l0 300000 (ones l0.length) else some ([], 1)) else none
theorem ones_succ (k : Nat) : ones (k + 1) = ones k ++ [[(k : Int)]] := by unfold ones; rw [List.range_succ, List.map_append]; rfl
theorem ones_len (k : Nat) : (ones k).length = k := by unfold ones; simp
theorem infoWay : (Try.prog.info? 51).map (fun i => (i.zero, i.size, i.bytes)) = some (some (.agg #[.int .i64 0, .int .i64 0, .int .i64 0, .int .i64 0, .int .i64 0, .int .i64 0, .int .i64 0]), 7, 56) := by kernel_rfl
theorem way_lit (p : List Int) : ∃ b0 b1 b2 b3 b4 b5 : Int, p.getD 0 0 = b0 ∧ wayCells p = #[.int .i64 b0, .int .i64 b1, .int .i64 b2, .int .i64 b3, .int .i64 b4, .int .i64 b5, .int .i64 p.length] ∧ wayList p = [.int .i64 b0, .int .i64 b1, .int .i64 b2, .int .i64 b3, .int .i64 b4, .int .i64 b5, .int .i64 p.length] := ⟨_, _, _, _, _, _, rfl, rfl, rfl⟩
theorem lit_cells {W : World} {B : Nat} {b0 b1 b2 b3 b4 b5 b6 : Int} (h : W.heap[B]? = some (.cells #[.int .i64 b0, .int .i64 b1, .int .i64 b2, .int .i64 b3, .int .i64 b4, .int .i64 b5, .int .i64 b6] 51 (0, 0))) :
    W.cell? ⟨B, 0, none⟩ = some (.int .i64 b0) ∧ W.cell? ⟨B, 1, none⟩ = some (.int .i64 b1) ∧ W.cell? ⟨B, 2, none⟩ = some (.int .i64 b2) ∧ W.cell? ⟨B, 3, none⟩ = some (.int .i64 b3) ∧ W.cell? ⟨B, 4, none⟩ = some (.int .i64 b4) ∧ W.cell? ⟨B, 5, none⟩ = some (.int .i64 b5) ∧ W.cell? ⟨B, 6, none⟩ = some (.int .i64 b6) := by
  refine ⟨?_, ?_, ?_, ?_, ?_, ?_, ?_⟩ <;> simp [World.cell?, h]
theorem exts_succ (l0 p : List Int) (k : Nat) : exts l0 p (List.range (k + 1)) = exts l0 p (List.range k) ++ (if edgeB l0 p k && !p.contains (k : Int) then [p ++ [(k : Int)]] else []) := by
  unfold exts
  rw [List.range_succ, List.filter_append, List.map_append]
  congr 1
  by_cases h : (edgeB l0 p k && !p.contains (k : Int)) = true
  · rw [if_pos h, List.filter_cons, if_pos h]; rfl
  · rw [if_neg h, List.filter_cons, if_neg h]; rfl
theorem exts_len (l0 p : List Int) (k : Nat) : (exts l0 p (List.range k)).length ≤ k := by
  unfold exts
  rw [List.length_map]
  exact Nat.le_trans (List.length_filter_le _ _) (by simp)
theorem exts_ne (l0 p : List Int) (n k : Nat) (hk : k < n) (h : (edgeB l0 p k && !p.contains (k : Int)) = true) : exts l0 p (List.range n) ≠ [] := by
  intro he
  unfold exts at he
  rw [List.map_eq_nil_iff] at he
  have : k ∈ List.filter (fun (k : Nat) => edgeB l0 p k && !p.contains (k : Int)) (List.range n) := List.mem_filter.2 ⟨List.mem_range.2 hk, h⟩
  rw [he] at this
  cases this
theorem okWay_iff {n : Nat} {p : List Int} (h : okWay n p = true) : 0 < p.length ∧ p.length ≤ 6 ∧ ∀ x ∈ p, 0 ≤ x ∧ x < n := by
  unfold okWay at h
  simp only [Bool.and_eq_true, decide_eq_true_eq, List.all_eq_true] at h
  exact ⟨h.1.1, h.1.2, h.2⟩
set_option maxHeartbeats 1000000 in
theorem least_in (A0 : Option Addr) (c0 : Nat) (l0 : List Int) (r1 : List Int) (r2 : Int) (w : World) (hr0 : Kd.C (Kd.int .u32) w A0 l0.length l0) (hc0 : l0.length ≤ c0)
    (hx : ∀ x ∈ l0, 0 ≤ x ∧ x < 4294967296) (hm : mayB l0 = true) (h : bfs l0 300000 (ones l0.length) = some (r1, r2)) :
    Calls Try.prog 8 #[.slice A0 l0.length c0] w fun e w' => ∃ v0_ : Value, e = .returned (.tuple #[v0_, .int .i64 r2]) ∧ Kd.R (Kd.int .i64) 3 w' w.heap.size (fun _ => True) v0_ r1 ∧ Below w.heap.size w w' := by
  have hn6 : l0.length ≤ 6 := by unfold mayB at hm; simp only [Bool.and_eq_true, decide_eq_true_eq] at hm; exact hm.1
  have hm1 := Lib.hid (cycle_may.calls A0 c0 l0 true w hr0 hc0 (by unfold cycle_may.f; rw [if_pos hx, hm]))
  have HR0 := Lib.hid hr0
  have HX := Lib.hid hx
  have HV := Lib.hid h
  clear hr0 hx hm h
  go_enter Try.func8, Try.ntmps8
  go_wp2_with (go_at_call 26; refine hm1.out.mono ?_; rintro e w1 ⟨rfl, hB1⟩; have HB1 := Lib.hid hB1; clear hB1)
  go_loopw [4, 13] (fun v i wr => ∃ k : Nat, k ≤ l0.length ∧ i = .int .i64 k ∧ Kd.Q wayK 51 wr w.heap.size (fun _ => True) v (ones k) ∧ Below w.heap.size w wr) (fun _ i _ => l0.length - (intOf i).toNat)
  case atStart => exact ⟨0, Nat.zero_le _, rfl, Kd.Q_nil _ _ _ _ _, HB1.out⟩
  case round =>
    obtain ⟨k, hk, rfl, hQ, hB⟩ := hrel
    by_cases hlt : k < l0.length
    · have hw := fun w => way_with [] (k : Int) (by decide) w
      have hz : wayCells ([] : List Int) = #[.int .i64 0, .int .i64 0, .int .i64 0, .int .i64 0, .int .i64 0, .int .i64 0, .int .i64 0] := rfl
      obtain ⟨b0, b1, b2, b3, b4, b5, _, hb1, hb2⟩ := way_lit [(k : Int)]
      rw [hz, List.nil_append, hb1] at hw
      have HL := Lib.hid hb2
      clear hb1 hb2
      have HW := fun w => Lib.hid (hw w)
      have HQ := Lib.hid hQ
      have HB := Lib.hid hB
      clear hw hz hQ hB
      go_wp2_with (first
        | (go_at_call 27; refine (HW _).out.mono ?_; rintro e w2 ⟨rfl, hB2⟩; have hB3 := Lib.hid (HB.out.trans (hB2.mono HB.out.size)); have hQ3 := Lib.hid (Kd.Q_below HQ.out hB2); clear hB2)
        | (at_builtin; refine Kd.Q_append wayK (w0 := w) w.heap.size rfl (.tmp 16) (.tmp 20) 48 51 _ 56 rfl Try.underlying48 infoWay rfl (by decide) (by decide) _ (ones k) [(k : Int)] [.int .i64 b0, .int .i64 b1, .int .i64 b2, .int .i64 b3, .int .i64 b4, .int .i64 b5, .int .i64 ([(k : Int)].length : Nat)] (fun _ => True) (fun _ => False) rfl rfl HL.out.symm (fun _ hf => hf.elim) (fun _ _ => trivial) hQ3.out hB3.out hB3.out.size (by rw [ones_len]; omega) ?_; intro v1 w3 hQ4 hB4 _ _))
      go_roundw
      case rel => exact ⟨k + 1, by omega, by go_num, by rw [ones_succ]; exact hQ4, hB4⟩
      case measure => simp [intOf]; omega
    · obtain rfl : k = l0.length := by omega
      have HQ := Lib.hid hQ
      have HB := Lib.hid hB
      clear hQ hB
      go_wp2
      go_loopg [4] 300000 (fun f v wr => ∃ q, Hid (bfs l0 f q = some (r1, r2)) ∧ Hid (f ≤ 300000) ∧ Hid (Kd.Q wayK 51 wr w.heap.size (fun _ => True) v q) ∧ Hid (Below w.heap.size w wr))
      case atStart => exact ⟨_, HV, Lib.hid (Nat.le_refl _), HQ, HB⟩
      case round =>
        obtain ⟨q, HA, HF, HQ, HB⟩ := hrel
        obtain ⟨A, c, rfl, hqc⟩ := Kd.Q_slice HQ.out
        cases gk with
        | zero => exact absurd HA.out (by simp [bfs])
        | succ k1 =>
          cases q with
          | nil =>
            have e1 := HA.out
            unfold bfs at e1
            cases e1
            clear HA
            go_wp2
            go_ret2
            exact ⟨_, rfl, Kd.R_nil _ _ _ _ _, HB.out⟩
          | cons p q =>
            have e1 := HA.out
            unfold bfs at e1
            split at e1
            case isFalse => cases e1
            rename_i hok
            obtain ⟨hp0, hp6, hpx⟩ := okWay_iff hok.1
            have hq6 := hok.2
            clear HA hok
            obtain ⟨g, o, cap, hv, hgb, hgl, _⟩ := Kd.Q_form HQ.out (by simp)
            cases hv
            obtain ⟨cc, _, hcM, hcc, _⟩ := Kd.Q_elem HQ.out ([] : List Int) 0 (by omega) (by simp)
            have hcM2 : cc = wayList p := hcM
            subst hcM2
            obtain ⟨a0, a1, a2, a3, a4, a5, ha0, hl1, hl2⟩ := way_lit p
            rw [hl2] at hcc
            have x0 := hcc 0 _ rfl
            have x1 := hcc 1 _ rfl
            have x2 := hcc 2 _ rfl
            have x3 := hcc 3 _ rfl
            have x4 := hcc 4 _ rfl
            have x5 := hcc 5 _ rfl
            have x6 := hcc 6 _ rfl
            simp only [Int.toNat_zero, Nat.zero_mul, Nat.add_zero] at x0 x1 x2 x3 x4 x5 x6
            rw [ha0] at e1
            have HE := Lib.hid e1
            have HL1 := Lib.hid hl1
            have HL2 := Lib.hid hl2
            have HPX := Lib.hid hpx
            have HA0 := Lib.hid ha0
            clear hcc hcM hl1 hl2 e1 hpx ha0
            go_upto_region 12 with (fail)
            have hQd := Kd.Q_drop (k := 1) HQ.out (by simp)
            obtain ⟨V2, hV2⟩ : ∃ V2, V2 = Value.slice (if c = 1 then some ⟨g, o, none⟩ else some ⟨g, o + 7, none⟩) q.length (c - 1) := ⟨_, rfl⟩
            have hQ2 : Kd.Q wayK 51 wr w.heap.size (fun _ => True) V2 q := by
              rw [hV2]
              have e : (if c = 1 then some (⟨g, o, none⟩ : Addr) else some ⟨g, o + 7, none⟩) = (if c = 1 then some ⟨g, o, none⟩ else (some (⟨g, o, none⟩ : Addr)).map (·.add (1 * wayK.sz))) := by split <;> rfl
              rw [e]; exact hQd
            rw [← hV2]
            obtain ⟨W3, hW3⟩ : ∃ W3, W3 = wr.alloc (.cells #[.int .i64 a0, .int .i64 a1, .int .i64 a2, .int .i64 a3, .int .i64 a4, .int .i64 a5, .int .i64 p.length] 51) := ⟨_, rfl⟩
            rw [← hW3]
            have HQ3 := Lib.hid (Kd.Q_mono (Kd.Q_alloc (Kd.Q_elderB hQ2 wr.heap.size (Nat.le_refl _)) (.cells #[.int .i64 a0, .int .i64 a1, .int .i64 a2, .int .i64 a3, .int .i64 a4, .int .i64 a5, .int .i64 p.length] 51)) (fun k hk => hk.2))
            have hblk : W3.heap[wr.heap.size]? = some (.cells #[.int .i64 a0, .int .i64 a1, .int .i64 a2, .int .i64 a3, .int .i64 a4, .int .i64 a5, .int .i64 p.length] 51 (0, 0)) := by rw [hW3]; exact heap_alloc_new wr _
            have HB3 := Lib.hid (HB.out.alloc (o := .cells #[.int .i64 a0, .int .i64 a1, .int .i64 a2, .int .i64 a3, .int .i64 a4, .int .i64 a5, .int .i64 p.length] 51) HB.out.size)
            rw [← hW3] at HQ3 HB3
            obtain ⟨B, hBdef⟩ : ∃ B, B = wr.heap.size := ⟨_, rfl⟩
            rw [← hBdef] at hblk HQ3 ⊢
            have hB3w : w.heap.size ≤ B := by rw [hBdef]; exact HB.out.size
            have hBlt : B < W3.heap.size := blk_lt hblk
            have hlast : p.getLastD 0 ∈ p := by
              cases p with
              | nil => simp at hp0
              | cons x t => rw [List.getLastD_cons]; exact List.getLastD_mem_cons ..
            have hfirst : a0 ∈ p := by
              rw [← HA0.out]
              rw [List.getD_eq_getElem?_getD, List.getElem?_eq_getElem hp0]
              exact List.getElem_mem _
            obtain ⟨hlast0, hlast1⟩ := HPX.out _ hlast
            obtain ⟨ha00, ha01⟩ := HPX.out _ hfirst
            have hLA := fun W => way_last p hp0 hp6 W
            rw [HL1.out] at hLA
            obtain ⟨L, hL⟩ : ∃ L, L = p.getLastD 0 := ⟨_, rfl⟩
            rw [← hL] at hlast0 hlast1 hLA
            have HLL := Lib.hid hL
            obtain ⟨il, rfl⟩ := Int.eq_ofNat_of_zero_le hlast0
            obtain ⟨ia, rfl⟩ := Int.eq_ofNat_of_zero_le ha00
            have HLA := fun W => Lib.hid (hLA W)
            have hWC : ∀ W, Below w.heap.size w W → Kd.C (Kd.int .u32) W A0 l0.length l0 := fun W h => Kd.C_below HR0.out h
            obtain ⟨adl, hadl, _⟩ := Kd.at_int (hWC W3 HB3.out) (il : Int) hlast0 hlast1
            subst hadl
            obtain ⟨x, hx⟩ : ∃ x, x = rd l0 (il : Int) := ⟨_, rfl⟩
            have hWC2 : ∀ W, Below w.heap.size w W → W.cell? (adl.add il) = some (.int .u32 x) := fun W h => by
              obtain ⟨ad2, e2, h2⟩ := Kd.at_int (hWC W h) (il : Int) hlast0 hlast1
              cases e2
              rw [Int.toNat_natCast] at h2
              rw [hx]; exact h2
            have hedge : ∀ k : Nat, k ≤ 32 → edgeB l0 p k = (bits BinOp.and IntKind.u32 (x / 2 ^ k) 1 == 1) := fun k hk => by
              unfold edgeB bitAt; rw [← HLL.out, ← hx, Nat.min_eq_left hk]
            have hWB : ∀ W, Below W3.heap.size W3 W → W.heap[B]? = some (.cells #[.int .i64 ia, .int .i64 a1, .int .i64 a2, .int .i64 a3, .int .i64 a4, .int .i64 a5, .int .i64 p.length] 51 (0, 0)) := fun W h => (h.block B hBlt).trans hblk
            have HWB := Lib.hid hWB
            have HWC2 := Lib.hid hWC2
            have HED := Lib.hid hedge
            clear hQd hQ2 hV2 hW3 hBdef hLA hWC hWC2 hWB hedge x0 x1 x2 x3 x4 x5 x6 hL hx hqc hlast hfirst hgb hgl
            go_cut [41] (fun v41 wc => v41 = .bool (edgeB l0 p ia) ∧ Hid (Below W3.heap.size W3 wc))
            case first =>
              obtain ⟨y0, y1, y2, y3, y4, y5, y6⟩ := lit_cells (HWB.out W3.drew (Below.refl _ _).drew)
              have y7 := HWC2.out W3.drew HB3.out.drew
              go_region_with (go_at_call 28; refine (HLA _).out.mono ?_; rintro e wl ⟨rfl, hBl0⟩; have hBl : Below W3.heap.size W3 wl := ((Below.refl _ W3).drew).trans hBl0; obtain ⟨z0, z1, z2, z3, z4, z5, z6⟩ := lit_cells (HWB.out wl hBl); have z7 := HWC2.out wl (HB3.out.trans (hBl.mono HB3.out.size)); have hBl := Lib.hid hBl)
              all_goals
                go_wp2_with fail
                go_meet
                exact ⟨by rw [HED.out ia (by omega)], hBl⟩
            case rest =>
              obtain ⟨hv41, hBW⟩ := hcut
              have HEV := HE.out
              rw [Int.toNat_natCast] at HEV
              cases hed : edgeB l0 p ia with
              | true =>
                rw [hed] at hv41
                subst hv41
                rw [hed, if_pos rfl] at HEV
                simp only [Option.some.injEq, Prod.mk.injEq] at HEV
                have HR1 := Lib.hid HEV.1
                have HR2 := Lib.hid HEV.2
                clear HEV
                have hb := HWB.out wc hBW.out
                have hrd := Lib.hid (box_reads p hp6 wc B (by rw [HL1.out]; exact hb))
                obtain ⟨y0, y1, y2, y3, y4, y5, y6⟩ := lit_cells hb
                have hn6 : (p.length : Int) ≤ 6 := by omega
                have hcl := Lib.hid (slices_Clone_int_int.calls (some ⟨B, 0, none⟩) 6 p p wc hrd.out hp6 (by unfold slices_Clone_int_int.f; rw [if_pos (by omega)]))
                clear hed hb
                go_wp2_with (go_at_call 29; refine hcl.out.mono ?_; rintro e wl ⟨v0, rfl, hR, hBl⟩)
                go_ret2
                rw [← HR1.out, ← HR2.out]
                exact ⟨_, rfl, Kd.R_lower hR (Nat.le_trans HB3.out.size hBW.out.size), HB3.out.trans ((hBW.out.mono HB3.out.size).trans (hBl.mono (Nat.le_trans HB3.out.size hBW.out.size)))⟩
              | false =>
                rw [hed] at hv41
                subst hv41
                rw [hed, if_neg (by simp)] at HEV
                split at HEV
                case isFalse => cases HEV
                rename_i hext
                have HX6 := Lib.hid hext
                have HE2 := Lib.hid HEV
                clear hext HEV hed
                go_wp2
                go_loopw [4, 49] (fun v i wr2 => ∃ k : Nat, k ≤ l0.length ∧ i = .int .i64 k ∧ Hid (Kd.Q wayK 51 wr2 w.heap.size (fun j => j ≠ B) v (q ++ exts l0 p (List.range k))) ∧ Hid (Below w.heap.size w wr2) ∧ Hid (wr2.heap[B]? = some (.cells #[.int .i64 ia, .int .i64 a1, .int .i64 a2, .int .i64 a3, .int .i64 a4, .int .i64 a5, .int .i64 p.length] 51 (0, 0)))) (fun _ i _ => l0.length - (intOf i).toNat)
                case atStart =>
                  refine ⟨0, Nat.zero_le _, rfl, ?_, Lib.hid (HB3.out.trans (hBW.out.mono HB3.out.size)), Lib.hid (HWB.out wc hBW.out)⟩
                  have e : q ++ exts l0 p (List.range 0) = q := by simp [exts]
                  rw [e]
                  exact Lib.hid (Kd.Q_below HQ3.out hBW.out)
                case round =>
                  obtain ⟨k, hk, rfl, HQk, HBk, HBlk⟩ := hrel
                  by_cases hlt : k < l0.length
                  · obtain ⟨y0, y1, y2, y3, y4, y5, y6⟩ := lit_cells HBlk.out
                    have hBl2 : B < wr.heap.size := blk_lt HBlk.out
                    cases hedk : edgeB l0 p k with
                    | false =>
                      have hex := Lib.hid (exts_succ l0 p k)
                      rw [hedk] at hex
                      have hb2 : (bits BinOp.and IntKind.u32 (x / 2 ^ k) 1 == 1) = false := by rw [← HED.out k (by omega)]; exact hedk
                      have hbm : (bits BinOp.and IntKind.u32 (x / 2 ^ min k 32) 1 == 1) = false := by rw [Nat.min_eq_left (by omega)]; exact hb2
                      have e0 : exts l0 p (List.range (k + 1)) = exts l0 p (List.range k) := by rw [hex.out, Bool.false_and, if_neg (by simp), List.append_nil]
                      have hE0 := Lib.hid e0
                      clear hedk hex e0
                      go_wp2_with (go_at_call 28; refine (HLA _).out.mono ?_; rintro e wl ⟨rfl, hBl⟩; have HK1 := Lib.hid (Kd.Q_below HQk.out hBl); have hK2 := HBk.out.trans (hBl.mono HBk.out.size); have hK3 := (hBl.block _ hBl2).trans HBlk.out; obtain ⟨z0, z1, z2, z3, z4, z5, z6⟩ := lit_cells hK3; have z7 := HWC2.out wl hK2; have HK2 := Lib.hid hK2; have HK3 := Lib.hid hK3; clear hBl hK2 hK3)
                      go_roundw
                      case rel => exact ⟨k + 1, by omega, by go_num, by rw [hE0.out]; exact HK1, HK2, HK3⟩
                      case measure => simp [intOf]; omega
                    | true =>
                      have hb2 : (bits BinOp.and IntKind.u32 (x / 2 ^ k) 1 == 1) = true := by rw [← HED.out k (by omega)]; exact hedk
                      have hbm : (bits BinOp.and IntKind.u32 (x / 2 ^ min k 32) 1 == 1) = true := by rw [Nat.min_eq_left (by omega)]; exact hb2
                      have hha := fun W => way_has p (k : Int) hp6 W
                      rw [HL1.out] at hha
                      cases hcn : p.contains (k : Int) with
                      | true =>
                        rw [hcn] at hha
                        have HHA := fun W => Lib.hid (hha W)
                        have e0 : exts l0 p (List.range (k + 1)) = exts l0 p (List.range k) := by rw [exts_succ, hcn, Bool.not_true, Bool.and_false, if_neg (by simp), List.append_nil]
                        have hE0 := Lib.hid e0
                        clear hedk e0 hha hcn
                        go_wp2_with (first
                          | (go_at_call 28; refine (HLA _).out.mono ?_; rintro e wl ⟨rfl, hBl⟩; have HK1 := Lib.hid (Kd.Q_below HQk.out hBl); have hK2 := HBk.out.trans (hBl.mono HBk.out.size); have hK3 := (hBl.block _ hBl2).trans HBlk.out; obtain ⟨z0, z1, z2, z3, z4, z5, z6⟩ := lit_cells hK3; have z7 := HWC2.out wl hK2; have HK2 := Lib.hid hK2; have HK3 := Lib.hid hK3; clear hBl hK2 hK3)
                          | (go_at_call 30; refine (HHA _).out.mono ?_; rintro e wh ⟨rfl, hBh⟩; have HM1 := Lib.hid (Kd.Q_below HK1.out hBh); have HM2 := Lib.hid (HK2.out.trans (hBh.mono HK2.out.size)); have HM3 := Lib.hid ((hBh.block _ (blk_lt HK3.out)).trans HK3.out); clear hBh))
                        go_roundw
                        case rel => exact ⟨k + 1, by omega, by go_num, by rw [hE0.out]; exact HM1, HM2, HM3⟩
                        case measure => simp [intOf]; omega
                      | false =>
                        rw [hcn] at hha
                        have HHA := fun W => Lib.hid (hha W)
                        have hq1 : (edgeB l0 p k && !p.contains (k : Int)) = true := by rw [hedk, hcn]; rfl
                        have hlen : p.length < 6 := by
                          rcases HX6.out with h | h
                          · exact h
                          · exact absurd h (exts_ne l0 p l0.length k hlt hq1)
                        have e0 : exts l0 p (List.range (k + 1)) = exts l0 p (List.range k) ++ [p ++ [(k : Int)]] := by rw [exts_succ, if_pos hq1]
                        have hE0 := Lib.hid e0
                        have hwi := fun W => way_with p (k : Int) hlen W
                        obtain ⟨b0, b1, b2, b3, b4, b5, _, hm1, hm2⟩ := way_lit (p ++ [(k : Int)])
                        obtain ⟨b6, hb6⟩ : ∃ b6 : Int, b6 = ((p ++ [(k : Int)]).length : Nat) := ⟨_, rfl⟩
                        rw [← hb6] at hm1 hm2
                        rw [HL1.out, hm1] at hwi
                        have HWI := fun W => Lib.hid (hwi W)
                        have HM := Lib.hid hm2
                        have hqln : (q ++ exts l0 p (List.range k)).length ≤ 10000006 := by rw [List.length_append]; have := exts_len l0 p k; omega
                        have HQL := Lib.hid (show ((q ++ exts l0 p (List.range k)).length + 1) * 56 ≤ 140737488355328 by omega)
                        clear hedk e0 hha hcn hq1 hm1 hm2 hwi hqln hb6
                        go_wp2_with (first
                          | (go_at_call 28; refine (HLA _).out.mono ?_; rintro e wl ⟨rfl, hBl⟩; have HK1 := Lib.hid (Kd.Q_below HQk.out hBl); have hK2 := HBk.out.trans (hBl.mono HBk.out.size); have hK3 := (hBl.block _ hBl2).trans HBlk.out; obtain ⟨z0, z1, z2, z3, z4, z5, z6⟩ := lit_cells hK3; have z7 := HWC2.out wl hK2; have HK2 := Lib.hid hK2; have HK3 := Lib.hid hK3; clear hBl hK2 hK3)
                          | (go_at_call 30; refine (HHA _).out.mono ?_; rintro e wh ⟨rfl, hBh⟩; have HM1 := Lib.hid (Kd.Q_below HK1.out hBh); have HM2 := Lib.hid (HK2.out.trans (hBh.mono HK2.out.size)); have hM3 := (hBh.block _ (blk_lt HK3.out)).trans HK3.out; obtain ⟨t0, t1, t2, t3, t4, t5, t6⟩ := lit_cells hM3; have HM3 := Lib.hid hM3; clear hBh hM3)
                          | (go_at_call 27; refine (HWI _).out.mono ?_; rintro e wi ⟨rfl, hBi⟩; have HN1 := Lib.hid (Kd.Q_below HM1.out hBi); have HN2 := Lib.hid (HM2.out.trans (hBi.mono HM2.out.size)); have HN3 := Lib.hid ((hBi.block _ (blk_lt HM3.out)).trans HM3.out); clear hBi)
                          | (at_builtin; refine Kd.Q_append wayK (w0 := w) w.heap.size rfl (.tmp 67) (.tmp 71) 48 51 _ 56 rfl Try.underlying48 infoWay rfl (by decide) (by decide) _ (q ++ exts l0 p (List.range k)) (p ++ [(k : Int)]) [.int .i64 b0, .int .i64 b1, .int .i64 b2, .int .i64 b3, .int .i64 b4, .int .i64 b5, .int .i64 b6] (fun j => j ≠ B) (fun _ => False) rfl rfl HM.out.symm (fun _ hf => hf.elim) (fun j hj => Nat.ne_of_gt (Nat.lt_of_lt_of_le (blk_lt HN3.out) hj)) HN1.out HN2.out HN2.out.size HQL.out ?_; intro v1 w3 hQ4 hB4 hg4 _; have HP3 := Lib.hid ((hg4.block _ (blk_lt HN3.out) (fun he => (Kd.Q_ok HN1.out) B he.symm rfl)).trans HN3.out)))
                        go_roundw
                        case rel => exact ⟨k + 1, by omega, by go_num, by rw [hE0.out, ← List.append_assoc]; exact Lib.hid hQ4, Lib.hid hB4, HP3⟩
                        case measure => simp [intOf]; omega
                  · obtain rfl : k = l0.length := by omega
                    go_wp2
                    go_roundg k1
                    case measure => have := HF.out; omega
                    case rel => exact ⟨_, HE2, Lib.hid (by have := HF.out; omega), Lib.hid (Kd.Q_mono HQk.out (fun _ _ => trivial)), HBk⟩
theorem cycle_Least.calls (A0 : Option Addr) (c0 : Nat) (l0 : List Int) (r1 : List Int) (r2 : Int) (w : World) (hr0 : Kd.C (Kd.int .u32) w A0 l0.length l0) (hc0 : l0.length ≤ c0) (h : cycle_Least.f l0 = some (r1, r2)) :
    Calls Try.prog 8 #[.slice A0 l0.length c0] w fun e w' => ∃ v0_ : Value, e = .returned (.tuple #[v0_, .int .i64 r2]) ∧ Kd.R (Kd.int .i64) 3 w' w.heap.size (fun _ => True) v0_ r1 ∧ Below w.heap.size w w' := by
  unfold cycle_Least.f at h
  split at h
  case isFalse => cases h
  rename_i hx
  split at h
  case isTrue hm => exact least_in A0 c0 l0 r1 r2 w hr0 hc0 hx hm h
  case isFalse hm =>
    cases h
    have hm1 := Lib.hid (cycle_may.calls A0 c0 l0 false w hr0 hc0 (by unfold cycle_may.f; rw [if_pos hx, Bool.eq_false_iff.2 hm]))
    clear hr0 hx hm
    go_enter Try.func8, Try.ntmps8
    go_wp2_with (go_at_call 26; refine hm1.out.mono ?_; rintro e w1 ⟨rfl, hB1⟩; have HB1 := Lib.hid hB1; clear hB1)
    go_ret2
    exact ⟨_, rfl, Kd.R_nil _ _ _ _ _, HB1.out⟩
end Go.Proofs.Ytimbamimabdmcaa.P

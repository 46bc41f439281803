/- The reader of binary, by hand: seventh. -/
import Derived.Test.YthkpocgbinmeiaaDoorGRead
import Derived.Test.YthkpocgbinmeiaaDoorP2
namespace Go.Proofs.YthkpocgbinmeiaaDoor.P
set_option linter.unusedVariables false
set_option linter.unusedSimpArgs false
open Go Go.RowKit Go.Proofs.YthkpocgbinmeiaaDoorW.PrintWords Go.Proofs.YthkpocgbinmeiaaDoorW.PrintLast Go.Proofs.YthkpocgbinmeiaaDoorW.PrintMore Go.Proofs.YthkpocgbinmeiaaDoor.U

def idxOf (g : Int → Bool) : List Int → Nat → Int
  | [], _ => -1
  | x :: t, i => if g x then i else idxOf g t (i + 1)
theorem idxOf_drop (g : Int → Bool) (l : List Int) (k : Nat) (h : k < l.length) : idxOf g (l.drop k) k = if g (rd l k) then (k : Int) else idxOf g (l.drop (k + 1)) (k + 1) := by
  rw [List.drop_eq_getElem_cons h]
  have : rd l k = l[k] := by unfold rd; simp [List.getD_eq_getElem?_getD, List.getElem?_eq_getElem h]
  rw [this]; rfl
theorem idxOf_any (g : Int → Bool) (l : List Int) : ∀ i, decide (idxOf g l i ≥ 0) = l.any g := by
  induction l with
  | nil => intro i; rfl
  | cons x t ih =>
    intro i
    unfold idxOf
    cases hg : g x with
    | true => simp [hg]
    | false => simp only [Bool.false_eq_true, if_false]; rw [ih]; simp [hg]
theorem index_run (l : List Int) (a : Int) (hl : l.length < 1000000) (d : Nat) : ∀ i : Nat, i + d = l.length → slices_Index_int_int.l0 (d + 1) l a (l.length : Int) (i : Int) = some (idxOf (fun x => decide (a = x)) (l.drop i) i) := by
  induction d with
  | zero =>
    intro i hi
    unfold slices_Index_int_int.l0
    rw [if_neg (by omega), show i = l.length by omega, List.drop_length]; rfl
  | succ d ih =>
    intro i hi
    have h2 := ih (i + 1) (by omega)
    have hd := idxOf_drop (fun x => decide (a = x)) l i (by omega)
    unfold slices_Index_int_int.l0
    rw [if_pos (by omega), if_pos (by omega), if_pos (by omega), hd]
    by_cases hax : a = rd l i
    · rw [if_pos hax, if_pos (decide_eq_true hax)]
    · rw [if_neg hax, if_neg (by simpa using hax), show wrap64 ((i : Int) + 1) = ((i + 1 : Nat) : Int) by unfold wrap64; omega]
      exact h2
theorem contains_run (l : List Int) (a : Int) (hl : l.length < 1000000) : slices_Contains_int_int.f (l.length + 1) l a = some (l.contains a) := by
  unfold slices_Contains_int_int.f slices_Index_int_int.f
  have h := index_run l a hl l.length 0 (by omega)
  rw [show ((0 : Nat) : Int) = 0 from rfl] at h
  rw [h, Option.bind_some, List.drop_zero, idxOf_any]
  congr 1
  rw [List.contains_eq_any_beq]
  congr 1
def addN (acc : List Int) (e : S34) : List Int := if acc.contains e.f1 then acc else acc ++ [e.f1]
def namesF (evs : List S34) : List Int := evs.foldl addN []
theorem names_snoc (evs : List S34) (e : S34) : namesF (evs ++ [e]) = addN (namesF evs) e := by unfold namesF; rw [List.foldl_append]; rfl
theorem names_len (evs : List S34) : (namesF evs).length ≤ evs.length := by
  suffices h : ∀ (l : List S34) (acc : List Int), (l.foldl addN acc).length ≤ acc.length + l.length by
    have := h evs []
    simpa [namesF] using this
  intro l
  induction l with
  | nil => intro acc; simp
  | cons e l ih =>
    intro acc
    rw [List.foldl_cons]
    have := ih (addN acc e)
    have h2 : (addN acc e).length ≤ acc.length + 1 := by unfold addN; split <;> simp
    rw [List.length_cons]; omega
theorem take_snocE (l : List S34) (k : Nat) (h : k < l.length) : l.take (k + 1) = l.take k ++ [rd_T34 l (k : Int)] := by
  rw [List.take_succ_eq_append_getElem h]
  unfold rd_T34
  rw [Int.toNat_natCast, List.getD_eq_getElem?_getD, List.getElem?_eq_getElem h]; rfl
def seventhB (evs : List S34) (nm : Int) : Bool := decide ((namesF evs).length = 6) && !(namesF evs).contains nm
set_option maxHeartbeats 1000000 in
theorem seventh_run {W : World} {g : Nat} {A : Option Addr} {n c : Nat} {Ao : Option Addr} {co : Nat} {evs : List S34} {s : RSt} (h : Rdr W g A n c (.slice Ao evs.length co) s) (hE : Kd.C k34 W Ao evs.length evs) (hle : evs.length ≤ 1000) (nm : Int) :
    Calls Tryd.prog 97 #[.pointer (some ⟨g, 0, none⟩), .int .i64 nm] W fun x w' => x = .returned (.bool (seventhB evs nm)) ∧ Below W.heap.size W w' := by
  obtain ⟨c0, c1, c2, c3, c4⟩ := h.cells
  obtain ⟨res, hres⟩ : ∃ res, res = seventhB evs nm := ⟨_, rfl⟩
  rw [← hres]
  have HRES := Lib.hid hres
  clear hres
  have HE := Lib.hid hE
  have HR := Lib.hid h
  clear h hE
  go_enter Tryd.func97, Tryd.ntmps97
  go_wp2
  go_loopw [5, 13] (fun v5 v13 wr => ∃ i : Nat, i ≤ evs.length ∧ v13 = .int .i64 (i : Int) ∧ Hid (Kd.R (Kd.int .i64) 3 wr W.heap.size (fun _ => True) v5 (namesF (evs.take i))) ∧ Hid (Below W.heap.size W wr)) (fun _ v13 _ => evs.length - (intOf v13).toNat)
  case atStart => exact ⟨0, Nat.zero_le _, rfl, Lib.hid (Kd.R_nil _ _ _ _ _), Lib.hid (Below.refl _ _)⟩
  case round =>
    clear c0 c1 c2 c3 c4
    obtain ⟨i, hi, rfl, HN, HB⟩ := hrel
    have hnl := names_len (evs.take i)
    rw [List.length_take] at hnl
    obtain ⟨An, cn, rfl⟩ := Kd.R_slice HN.out
    by_cases hlt : i < evs.length
    · obtain ⟨adE, rfl, hx0, hx1, hx2, hx3⟩ := at_T34 (Kd.C_below HE.out HB.out) (i : Int) (by omega) (by omega)
      have htk := take_snocE evs i hlt
      obtain ⟨ev, hev⟩ : ∃ ev, ev = rd_T34 evs (i : Int) := ⟨_, rfl⟩
      rw [← hev] at hx0 hx1 hx2 hx3 htk
      rw [Int.toNat_natCast] at hx0 hx1 hx2 hx3
      have HTK := Lib.hid htk
      clear htk hev
      go_upto_region 5 with (first
        | ((with_reducible refine gate_dst (N := 7) rfl ?_); refine box_event ?hg (N := 7) ?hd (cs := #[.int .i64 0, .int .i64 0, .int .i64 0, .int .i64 0]) (t := 34) ?hr ?_; (case hd => rfl); (case hg => rfl); (case hr => first | (go_simp; done) | (go_simp; rfl)); intro gb hg w1 hbox hb; have HBX := Lib.hid hbox; have HB1 := Lib.hid hb; have HG := Lib.hid hg; have z0 : w1.cell? ⟨gb, 0, none⟩ = some (.int .i64 0) := (blk_cell hbox 0).trans rfl; have z1 : w1.cell? ⟨gb, 1, none⟩ = some (.int .i64 0) := (blk_cell hbox 1).trans rfl; have z2 : w1.cell? ⟨gb, 2, none⟩ = some (.int .i64 0) := (blk_cell hbox 2).trans rfl; have z3 : w1.cell? ⟨gb, 3, none⟩ = some (.int .i64 0) := (blk_cell hbox 3).trans rfl; have y0 := blk_frozen hbox 0; have y1 := blk_frozen hbox 1; have y2 := blk_frozen hbox 2; have y3 := blk_frozen hbox 3; clear hbox hb hg))
      have hgw : W.heap.size ≤ gb := by rw [HG.out]; exact HB.out.size
      obtain ⟨W5, hW5⟩ : ∃ W5, W5 = (((w1.setCell ⟨gb, 0, none⟩ (.int .i64 ev.f0)).setCell ⟨gb, 1, none⟩ (.int .i64 ev.f1)).setCell ⟨gb, 2, none⟩ (.int .i64 ev.f2)).setCell ⟨gb, 3, none⟩ (.int .i64 ev.f3) := ⟨_, rfl⟩
      have HN5 : Hid (Kd.R (Kd.int .i64) 3 W5 W.heap.size (fun _ => True) (.slice An (namesF (evs.take i)).length cn) (namesF (evs.take i))) := Lib.hid (by
        rw [hW5]
        exact Kd.R_mono (Kd.R_far (p := ⟨gb, 3, none⟩) (Kd.R_far (p := ⟨gb, 2, none⟩) (Kd.R_far (p := ⟨gb, 1, none⟩) (Kd.R_far (p := ⟨gb, 0, none⟩) (Kd.R_types (Kd.R_below HN.out HB1.out) HBX.out (by decide)) (fun _ hk => hk.2) (.int .i64 ev.f0)) (fun _ hk => hk.2) (.int .i64 ev.f1)) (fun _ hk => hk.2) (.int .i64 ev.f2)) (fun _ hk => hk.2) (.int .i64 ev.f3)) (fun _ hk => trivial))
      have HB5 : Hid (Below W.heap.size W W5) := Lib.hid (by
        rw [hW5]
        exact ((((HB.out.trans (HB1.out.mono HB.out.size)).setCell (p := ⟨gb, 0, none⟩) hgw _).setCell (p := ⟨gb, 1, none⟩) hgw _).setCell (p := ⟨gb, 2, none⟩) hgw _).setCell (p := ⟨gb, 3, none⟩) hgw _)
      have hx : W5.cell? ⟨gb, 1, none⟩ = some (.int .i64 ev.f1) := by
        rw [hW5]
        exact (blk_cell (blk_set (blk_set (blk_set (blk_set HBX.out 0 (.int .i64 ev.f0)) 1 (.int .i64 ev.f1)) 2 (.int .i64 ev.f2)) 3 (.int .i64 ev.f3)) 1).trans (by simp)
      rw [← hW5]
      clear hW5 z0 z1 z2 z3 y0 y1 y2 y3 hx0 hx1 hx2 hx3
      have hns : namesF (evs.take (i + 1)) = addN (namesF (evs.take i)) ev := by rw [HTK.out, names_snoc]
      have HNS := Lib.hid hns
      obtain ⟨nms, hnm⟩ : ∃ nms, nms = namesF (evs.take i) := ⟨_, rfl⟩
      rw [← hnm] at HN5 HNS hnl ⊢
      clear hnm hns HN
      have hcr := contains_run nms ev.f1 (by omega)
      have HCR := Lib.hid hcr
      clear hcr
      have hr5 := Kd.R_reads' HN5.out
      have HC5 := Lib.hid hr5.2.2
      have Hc5 := Lib.hid hr5.2.1
      clear hr5
      cases hcb : nms.contains ev.f1 with
      | true =>
        rw [hcb] at HCR
        go_wp2_with (first
          | (go_at_call 90; refine (slices_Contains_int_int.calls (nms.length + 1) An cn nms ev.f1 true W5 HC5.out Hc5.out HCR.out).mono ?_; rintro e w7 ⟨rfl, ⟨m7, rfl⟩⟩))
        go_roundw
        case rel => exact ⟨i + 1, by omega, by go_num, Lib.hid (by rw [HNS.out]; unfold addN; rw [if_pos hcb]; exact Kd.R_drewN HN5.out _), Lib.hid (pw_below_drewN HB5.out _)⟩
        case measure => simp [intOf]; omega
      | false =>
        rw [hcb] at HCR
        go_wp2_with (first
          | (go_at_call 90; refine (slices_Contains_int_int.calls (nms.length + 1) An cn nms ev.f1 false W5 HC5.out Hc5.out HCR.out).mono ?_; rintro e w7 ⟨rfl, ⟨m7, rfl⟩⟩)
          | ((with_reducible refine gate_builtin (b := .append) (xs := #[.tmp 22, .tmp 25]) rfl ?_); at_builtin; refine Kd.R_append (Kd.int .i64) W.heap.size rfl (.tmp 22) (.tmp 25) 59 3 (.int .i64 0) 8 rfl Tryd.underlying59 info3 rfl (by decide) (by omega) (.slice An nms.length cn) nms ev.f1 [.int .i64 ev.f1] (fun _ => True) (fun _ => False) rfl (by first | (go_simp; done) | (go_simp; rfl)) ?aP (fun _ hk => hk.elim) ?aF ?aO (pw_below_drewN HB5.out _) ?aS ?aL ?_; (case aP => exact rfl); (case aF => exact (fun _ _ => trivial)); (case aO => exact Kd.R_drewN HN5.out _); (case aS => exact HB5.out.size); (case aL => omega); intro v8 w8 ho hb8 hg8 hat8; have HN8 := Lib.hid ho; have HB8 := Lib.hid hb8; clear ho hb8 hg8 hat8))
        go_roundw
        case rel => exact ⟨i + 1, by omega, by go_num, Lib.hid (by rw [HNS.out]; unfold addN; rw [if_neg (by rw [hcb]; simp)]; exact HN8.out), HB8⟩
        case measure => simp [intOf]; omega
    · obtain rfl : i = evs.length := by omega
      have hte : evs.take evs.length = evs := List.take_length
      rw [hte] at HN hnl ⊢
      have hre := HRES.out
      unfold seventhB at hre
      obtain ⟨nms, hnm⟩ : ∃ nms, nms = namesF evs := ⟨_, rfl⟩
      rw [← hnm] at HN hnl hre ⊢
      clear hnm hte HRES
      have hcr := contains_run nms nm (by omega)
      obtain ⟨bc, hbc⟩ : ∃ bc, bc = nms.contains nm := ⟨_, rfl⟩
      rw [← hbc] at hcr hre
      clear hbc
      have HCR := Lib.hid hcr
      have hr5 := Kd.R_reads' HN.out
      have HC5 := Lib.hid hr5.2.2
      have Hc5 := Lib.hid hr5.2.1
      clear hcr hr5
      by_cases h6 : nms.length = 6
      · have h6b : ((nms.length : Int) == 6) = true := by simp; omega
        rw [decide_eq_true h6, Bool.true_and] at hre
        have HRE := Lib.hid hre
        clear hre h6
        go_wp2_with (first
          | (go_at_call 90; refine (slices_Contains_int_int.calls (nms.length + 1) An cn nms nm _ wr HC5.out Hc5.out HCR.out).mono ?_; rintro e w7 ⟨rfl, ⟨m7, rfl⟩⟩))
        go_ret
        refine ⟨?_, pw_below_drewN HB.out _⟩
        rw [HRE.out]; rfl
      · have h6b : ((nms.length : Int) == 6) = false := by simp; omega
        rw [decide_eq_false h6, Bool.false_and] at hre
        have HRE := Lib.hid hre
        clear hre
        go_wp2
        go_ret
        refine ⟨?_, HB.out⟩
        rw [HRE.out]; rfl
end Go.Proofs.YthkpocgbinmeiaaDoor.P

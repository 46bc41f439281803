/- text.Print, given: it asks that the tables of kinds and of powers of ten lie in the world. -/
import Derived.Test.YthkpocgbinmeiaaDoorGRight
import Derived.Test.YthkpocgbinmeiaaDoorGItoa
import Derived.Test.YthkpocgbinmeiaaDoorGBuild
import Derived.Test.YthkpocgbinmeiaaDoorP5
import Derived.Lib.ItoaLen
import Derived.Laws.Concat
namespace Go.Proofs.YthkpocgbinmeiaaDoor.P
set_option linter.unusedVariables false
set_option linter.unusedSimpArgs false
open Go Go.RowKit Go.Proofs.YthkpocgbinmeiaaDoorW.PrintWords Go.Proofs.YthkpocgbinmeiaaDoorW.PrintLast Go.Proofs.YthkpocgbinmeiaaDoorW.PrintMore Go.Proofs.YthkpocgbinmeiaaDoor.U

abbrev IsB (B b : Nat) (l : List UInt8) (w : World) : Prop := Lib.IsBuilderF 99 5 B b (Lib.byteCells l) w
theorem IsB.below {B b : Nat} {l : List UInt8} {w w' : World} (h : IsB B b l w) (hb : Below w.heap.size w w') : IsB B b l w' := by
  have one : ∀ p, Lib.BuilderAtF 99 5 B b p (Lib.byteCells l) w → Lib.BuilderAtF 99 5 B b p (Lib.byteCells l) w' := by
    rintro p ⟨hB, v, hbk, hown, hne⟩
    refine ⟨hB, v, (hb.block b (blk_lt hbk)).trans hbk, World.ownsRowF.kept (row := none) hown ⟨hb.os, hb.tape, hb.output, hb.size, fun i hi _ => hb.block i hi⟩ ?_, hne⟩
    cases v.ownBlock with
    | none => exact .inl rfl
    | some k => exact .inr (by simp)
  exact h.elim (fun x => .inl (one _ x)) (fun x => .inr (one _ x))
theorem IsB.lt {B b : Nat} {l : List UInt8} {w : World} (h : IsB B b l w) : B ≤ b ∧ b < w.heap.size := h.elim (fun x => ⟨x.1, x.lt⟩) (fun x => ⟨x.1, x.lt⟩)
theorem kept_below {b : Option Nat} {w w' : World} (hb : Below w.heap.size w w') : Lib.OthersKept 5 b w w' := fun k o ho _ _ => (hb.block k (blk_lt ho)).trans ho
theorem cells_app (l m : List UInt8) : Lib.byteCells l ++ Lib.byteCells m = Lib.byteCells (l ++ m) := by unfold Lib.byteCells; rw [List.map_append]
theorem ws_run {B b : Nat} {l : List UInt8} {w : World} (s : ByteArray) (h : IsB B b l w) (hl : l.length + s.size ≤ 1000000) : Calls Tryd.prog 72 #[.pointer (some ⟨b, 0, none⟩), .string s] w fun e w' => e = .returned (.tuple #[.int .i64 s.size, .nilIface]) ∧ IsB B b (l ++ s.data.toList) w' ∧ Below B w w' ∧ Lib.OthersKept 5 (some b) w w' := by
  have hB := h.lt
  refine (bws_run B b (Lib.byteCells l) s w h (by rw [Lib.byteCells_length]; omega) (by omega)).mono ?_
  rintro e w' ⟨rfl, h1, h2, h3⟩
  refine ⟨rfl, ?_, h2, h3⟩
  have : Lib.strCells s = Lib.byteCells s.data.toList := rfl
  rw [this, cells_app] at h1
  exact h1
theorem wb_run {B b : Nat} {l : List UInt8} {w : World} (c : UInt8) (h : IsB B b l w) (hl : l.length ≤ 1000000) : Calls Tryd.prog 73 #[.pointer (some ⟨b, 0, none⟩), .int .u8 (c.toNat : Int)] w fun e w' => e = .returned .nilIface ∧ IsB B b (l ++ [c]) w' ∧ Below B w w' ∧ Lib.OthersKept 5 (some b) w w' := by
  have hB := h.lt
  refine (bwb_run B b (Lib.byteCells l) (c.toNat : Int) w h (by rw [Lib.byteCells_length]; omega) (by omega)).mono ?_
  rintro e w' ⟨rfl, h1, h2, h3⟩
  refine ⟨rfl, ?_, h2, h3⟩
  have : ([.int .u8 (c.toNat : Int)] : List Value) = Lib.byteCells [c] := rfl
  rw [this, cells_app] at h1
  exact h1
theorem wb10_run {B b : Nat} {l : List UInt8} {w : World} (h : IsB B b l w) (hl : l.length ≤ 1000000) : Calls Tryd.prog 73 #[.pointer (some ⟨b, 0, none⟩), .int .u8 10] w fun e w' => e = .returned .nilIface ∧ IsB B b (l ++ [10]) w' ∧ Below B w w' ∧ Lib.OthersKept 5 (some b) w w' := wb_run 10 h hl
theorem itoa_size (n : Int) (h0 : -2147483648 ≤ n) (h1 : n ≤ 2147483647) : (Lib.itoa n).length ≤ 21 := Lib.itoa_length_le n (by omega) (by omega)
theorem word_text_eq (n : Int) (h0 : -2147483648 ≤ n) (h1 : n ≤ 2147483647) : word_Text.f n = some (⟨(Lib.itoa n).toArray⟩, 0) := by
  unfold word_Text.f strconv_Itoa.f
  rw [if_neg (by omega), if_neg (by omega), if_pos (by omega), Option.bind_some]
/-- The closure put: a blank, and a number's text. -/
theorem put_run {B b : Nat} {l : List UInt8} {w : World} (n : Int) (h0 : -2147483648 ≤ n) (h1 : n ≤ 2147483647) (h : IsB B b l w) (hl : l.length ≤ 100000) (hT : ITab w) : Calls Tryd.prog 71 #[.int .i64 n, .pointer (some ⟨b, 0, none⟩)] w fun e w' => e = .returned (.tuple #[]) ∧ IsB B b (l ++ 32 :: Lib.itoa n) w' ∧ Below B w w' ∧ Lib.OthersKept 5 (some b) w w' := by
  have hB := h.lt
  have hsz := itoa_size n h0 h1
  have hw := word_Text.calls n ⟨(Lib.itoa n).toArray⟩ 0 w (word_text_eq n h0 h1) hT
  obtain ⟨t, ht⟩ : ∃ t : ByteArray, t = ⟨(Lib.itoa n).toArray⟩ := ⟨_, rfl⟩
  have htl : t.data.toList = Lib.itoa n := by rw [ht]
  have hts : t.size ≤ 21 := by rw [Lib.size_eq, htl]; exact hsz
  rw [← ht] at hw
  have hx : ∀ w, (Op.stringOp .add ⟨#[32]⟩ t).run Tryd.prog w = .ok (.string (⟨#[32]⟩ ++ t)) w := fun w => run_string_add_sum w _ _ (by have : (⟨#[32]⟩ : ByteArray).size = 1 := rfl; omega)
  obtain ⟨u, hu⟩ : ∃ u : ByteArray, u = (⟨#[32]⟩ : ByteArray) ++ t := ⟨_, rfl⟩
  have hul : u.data.toList = 32 :: Lib.itoa n := by rw [hu, ByteArray.data_append]; simp [htl]
  have hus : u.size ≤ 22 := by rw [Lib.size_eq, hul]; simp; omega
  rw [← hu] at hx
  have HW := Lib.hid hw
  have HI := Lib.hid h
  have HUL := Lib.hid hul
  have HUS := Lib.hid hus
  have HLL := Lib.hid hl
  have HBB := Lib.hid hB
  clear hw h ht htl hts hu hul hus hl hsz hB
  go_enter Tryd.func71, Tryd.ntmps71
  go_wp2_with (first
    | (go_at_call 22; refine HW.out.mono ?_; rintro x w2 ⟨rfl, hb2⟩; have HB2 := Lib.hid hb2; clear hb2)
    | (go_at_call 72; refine (ws_run _ (HI.out.below HB2.out) (by have := HUS.out; have := HLL.out; omega)).mono ?_; rintro x w3 ⟨rfl, h1, h2, h3⟩; have H1 := Lib.hid h1; have H2 := Lib.hid ((HB2.out.mono (by have := HBB.out; omega)).trans h2); have H3 := Lib.hid ((kept_below HB2.out).trans h3); clear h1 h2 h3))
  first | go_end0 | ((try simp only [Exit.inBlock, Exit.then]); refine bodyPost_ret (results_none rfl _ _ _) rfl ?_)
  exact ⟨rfl, by have := H1.out; rw [HUL.out] at this; exact this, H2.out, H3.out⟩
/-- An event's line. -/
def lineL (e : S34) : List UInt8 := (((wordK e.f0.toNat).data.toList ++ 32 :: Lib.itoa e.f1) ++ (if varB e.f0 then 32 :: Lib.itoa e.f2 else [])) ++ ((if valB e.f0 then 32 :: Lib.itoa e.f3 else []) ++ [10])
def textL (l : List S34) : List UInt8 := l.flatMap lineL
theorem text_snoc (l : List S34) (e : S34) : textL (l ++ [e]) = textL l ++ lineL e := by unfold textL; simp
theorem wordK_size (k : Nat) (h : k < 10) : (wordK k).size ≤ 9 := by
  rcases (by omega : k = 0 ∨ k = 1 ∨ k = 2 ∨ k = 3 ∨ k = 4 ∨ k = 5 ∨ k = 6 ∨ k = 7 ∨ k = 8 ∨ k = 9) with rfl | rfl | rfl | rfl | rfl | rfl | rfl | rfl | rfl | rfl <;> decide
theorem rights_each {l : List S34} (h : rightsB l = true) : ∀ e ∈ l, rightB e = true := by
  unfold rightsB at h
  simp only [Bool.and_eq_true, Bool.not_eq_true'] at h
  intro e he
  have := List.any_eq_false.1 h.2.1 e he
  simpa using this
theorem right_bds {e : S34} (h : rightB e = true) : (0 ≤ e.f0 ∧ e.f0 ≤ 9) ∧ (0 ≤ e.f1 ∧ e.f1 ≤ 9999) ∧ (0 ≤ e.f2 ∧ e.f2 ≤ 7) ∧ (-2147483648 ≤ e.f3 ∧ e.f3 ≤ 2147483647) := by
  unfold rightB inB at h
  simp only [Bool.and_eq_true, Bool.or_eq_true, decide_eq_true_eq, beq_iff_eq] at h
  obtain ⟨h0, h1, h2, h3⟩ := h
  exact ⟨h0, h1, by rcases h2 with h | h <;> omega, by rcases h3 with h | h <;> omega⟩
theorem line_len {e : S34} (h : rightB e = true) : (lineL e).length ≤ 100 := by
  obtain ⟨h0, h1, h2, h3⟩ := right_bds h
  have a0 := wordK_size e.f0.toNat (by omega)
  rw [Lib.size_eq] at a0
  have a1 := itoa_size e.f1 (by omega) (by omega)
  have a2 := itoa_size e.f2 (by omega) (by omega)
  have a3 := itoa_size e.f3 (by omega) (by omega)
  unfold lineL
  simp only [List.length_append, List.length_cons, List.length_nil]
  have b2 : (if varB e.f0 = true then 32 :: Lib.itoa e.f2 else []).length ≤ 22 := by
    split
    · rw [List.length_cons]; omega
    · simp
  have b3 : (if valB e.f0 = true then 32 :: Lib.itoa e.f3 else []).length ≤ 22 := by
    split
    · rw [List.length_cons]; omega
    · simp
  omega
theorem text_len (l : List S34) (h : ∀ e ∈ l, rightB e = true) : (textL l).length ≤ 100 * l.length := by
  induction l with
  | nil => exact Nat.le_refl _
  | cons e t ih =>
    have h1 := line_len (h e List.mem_cons_self)
    have h2 := ih (fun x hx => h x (List.mem_cons_of_mem _ hx))
    show (lineL e ++ textL t).length ≤ _
    rw [List.length_append, List.length_cons]; omega
/-- A builder, an event's copy and its kind's. -/
structure PSt (W w : World) (b g7 g8 : Nat) (l : List UInt8) (f0 f1 f2 f3 : Int) (s : ByteArray) (vb zb : Bool) : Prop where
  isb : IsB W.heap.size b l w
  below : Below W.heap.size W w
  ev : w.heap[g7]? = some (.cells #[.int .i64 f0, .int .i64 f1, .int .i64 f2, .int .i64 f3] 34 (0, 0))
  kd : w.heap[g8]? = some (.cells #[.string s, .bool vb, .bool zb] 106 (0, 0))
  n7 : g7 ≠ b
  n8 : g8 ≠ b
theorem PSt.call {W w w1 : World} {b g7 g8 : Nat} {l l1 : List UInt8} {f0 f1 f2 f3 : Int} {s : ByteArray} {vb zb : Bool} (h : PSt W w b g7 g8 l f0 f1 f2 f3 s vb zb) (h1 : IsB W.heap.size b l1 w1) (h2 : Below W.heap.size w w1) (h3 : Lib.OthersKept 5 (some b) w w1) : PSt W w1 b g7 g8 l1 f0 f1 f2 f3 s vb zb :=
  ⟨h1, h.below.trans h2, h3 g7 _ h.ev (by have := h.n7; simpa using this) (fun c fz e => by injection e with _ e2 _; exact absurd e2 (by decide)), h3 g8 _ h.kd (by have := h.n8; simpa using this) (fun c fz e => by injection e with _ e2 _; exact absurd e2 (by decide)), h.n7, h.n8⟩
theorem PSt.cells {W w : World} {b g7 g8 : Nat} {l : List UInt8} {f0 f1 f2 f3 : Int} {s : ByteArray} {vb zb : Bool} (h : PSt W w b g7 g8 l f0 f1 f2 f3 s vb zb) : w.cell? ⟨g7, 1, none⟩ = some (.int .i64 f1) ∧ w.cell? ⟨g7, 2, none⟩ = some (.int .i64 f2) ∧ w.cell? ⟨g7, 3, none⟩ = some (.int .i64 f3) ∧ w.cell? ⟨g8, 0, none⟩ = some (.string s) ∧ w.cell? ⟨g8, 1, none⟩ = some (.bool vb) ∧ w.cell? ⟨g8, 2, none⟩ = some (.bool zb) :=
  ⟨(blk_cell h.ev 1).trans rfl, (blk_cell h.ev 2).trans rfl, (blk_cell h.ev 3).trans rfl, (blk_cell h.kd 0).trans rfl, (blk_cell h.kd 1).trans rfl, (blk_cell h.kd 2).trans rfl⟩
def text_Print.f (l : List S34) : Option (ByteArray × Int) := some (if rightsB l = true then (⟨(textL l).toArray⟩, 0) else (⟨#[]⟩, 1))
set_option maxHeartbeats 1000000 in
set_option maxRecDepth 100000 in
theorem text_Print.calls2 (A0 : Option Addr) (c0 : Nat) (l0 : List S34) (r1 : ByteArray) (r2 : Int) (W : World) (hr0 : Kd.C k34 W A0 l0.length l0) (hc0 : l0.length ≤ c0) (h : text_Print.f l0 = some (r1, r2)) (hK : KTab W) (hI : ITab W) :
    Calls Tryd.prog 33 #[.slice A0 l0.length c0] W fun e w' => e = .returned (.tuple #[.string r1, .int .i64 r2]) ∧ Below W.heap.size W w' := by
  have hv := Option.some.inj h
  have hrt := text_Right.calls A0 c0 l0 (rightsB l0) W hr0 hc0 rfl hK
  have HE := Lib.hid hr0
  have KT := Lib.hid hK
  have IT := Lib.hid hI
  clear h hr0 hK hI
  cases hrb : rightsB l0 with
  | false =>
    rw [hrb] at hv hrt
    rw [if_neg (by simp)] at hv
    simp only [Prod.mk.injEq] at hv
    obtain ⟨rfl, rfl⟩ := hv
    have HRT := Lib.hid hrt
    clear hrt hrb
    go_enter Tryd.func33, Tryd.ntmps33
    go_wp2_with (first
      | (go_at_call 31; refine HRT.out.mono ?_; rintro x w2 ⟨rfl, hb2⟩; have HB2 := Lib.hid hb2; clear hb2))
    go_ret2
    exact ⟨rfl, HB2.out⟩
  | true =>
    have heach := rights_each hrb
    have hlen : l0.length ≤ 60 := by
      unfold rightsB at hrb
      simp only [Bool.and_eq_true, decide_eq_true_eq] at hrb
      exact hrb.1
    rw [hrb] at hv hrt
    rw [if_pos rfl] at hv
    simp only [Prod.mk.injEq] at hv
    obtain ⟨rfl, rfl⟩ := hv
    have HRT := Lib.hid hrt
    have HEA := Lib.hid heach
    clear hrt hrb heach
    obtain ⟨txt, htxt⟩ : ∃ t : ByteArray, t = ⟨(textL l0).toArray⟩ := ⟨_, rfl⟩
    rw [← htxt]
    have HTX := Lib.hid htxt
    clear htxt
    go_enter Tryd.func33, Tryd.ntmps33
    go_wp2_with (first
      | (go_at_call 31; refine HRT.out.mono ?_; rintro x w2 ⟨rfl, hb2⟩; have HB2 := Lib.hid hb2; clear hb2)
      | ((with_reducible refine gate_dst (N := 4) rfl ?_); refine box_event ?hg (N := 4) ?hd (cs := #[.pointer none, .slice none 0 0]) (t := 99) ?hr ?_; (case hd => rfl); (case hg => rfl); (case hr => first | (go_simp; done) | (go_simp; rfl)); intro b hg w3 hbox hb; have HS : Hid (IsB W.heap.size b [] w3) := Lib.hid (Lib.IsBuilderF.of (.inl ⟨by have := HB2.out.size; omega, _, hbox, World.ownsRow_nil _ _ _ _, by simp [Value.ownBlock]⟩)); have HB3 : Hid (Below W.heap.size W w3) := Lib.hid (HB2.out.trans (hb.mono HB2.out.size)); clear hbox hb hg))
    go_loopw [15] (fun v15 wr => ∃ i : Nat, i ≤ l0.length ∧ v15 = .int .i64 (i : Int) ∧ Hid (IsB W.heap.size b (textL (l0.take i)) wr) ∧ Hid (Below W.heap.size W wr)) (fun v15 _ => l0.length - (intOf v15).toNat)
    case atStart => exact ⟨0, Nat.zero_le _, rfl, HS, HB3⟩
    case round =>
      obtain ⟨i, hi, rfl, HS2, HBW⟩ := hrel
      clear HS HB3
      by_cases hlt : i < l0.length
      · obtain ⟨adE, rfl, hx0, hx1, hx2, hx3⟩ := at_T34 (Kd.C_below HE.out HBW.out) (i : Int) (by omega) (by omega)
        have htk := take_snocE l0 i hlt
        have hmem : rd_T34 l0 (i : Int) ∈ l0 := List.mem_of_mem_take (by rw [htk]; exact List.mem_append_right _ List.mem_cons_self)
        have hre := HEA.out _ hmem
        have hln := text_len (l0.take i) (fun x hx => HEA.out x (List.mem_of_mem_take hx))
        rw [List.length_take] at hln
        obtain ⟨ev, hev⟩ : ∃ ev, ev = rd_T34 l0 (i : Int) := ⟨_, rfl⟩
        rw [← hev] at hx0 hx1 hx2 hx3 htk hre
        rw [Int.toNat_natCast] at hx0 hx1 hx2 hx3
        have htk2 : textL (l0.take (i + 1)) = textL (l0.take i) ++ lineL ev := by rw [htk, text_snoc]
        obtain ⟨h0, h1, h2, h3⟩ := right_bds hre
        have hll := line_len hre
        obtain ⟨f0, f1, f2, f3⟩ := ev
        dsimp only at hx0 hx1 hx2 hx3 h0 h1 h2 h3
        obtain ⟨k, rfl⟩ := Int.eq_ofNat_of_zero_le h0.1
        have hk10 : k < 10 := by omega
        obtain ⟨k0, k1, k2⟩ := (KT.out.below HBW.out) k hk10
        have hws := wordK_size k hk10
        have HBL := Lib.hid HS2.out.lt
        obtain ⟨acc, hacc⟩ : ∃ acc, acc = textL (l0.take i) := ⟨_, rfl⟩
        rw [← hacc] at HS2 htk2 hln
        have hal : acc.length ≤ 6000 := by omega
        obtain ⟨vb, hvb⟩ : ∃ q, q = varB (k : Int) := ⟨_, rfl⟩
        obtain ⟨zb, hzb⟩ : ∃ q, q = valB (k : Int) := ⟨_, rfl⟩
        unfold lineL at htk2
        rw [← hvb] at k1
        rw [← hzb] at k2
        dsimp only at htk2
        rw [← hvb, ← hzb, Int.toNat_natCast] at htk2
        obtain ⟨wk, hwk⟩ : ∃ s, s = wordK k := ⟨_, rfl⟩
        rw [← hwk] at k0 hws htk2
        have HTK := Lib.hid htk2
        clear htk htk2 hmem hev hre hacc hvb hzb hwk hll hln
        have hk0 : (0 : Int) ≤ (k : Int) := by omega
        have hk1 : (k : Int) < 10 := by omega
        go_upto_region 8 with (first
          | ((with_reducible refine gate_dst (N := 7) rfl ?_); refine box_event ?hg (N := 7) ?hd (cs := #[.int .i64 0, .int .i64 0, .int .i64 0, .int .i64 0]) (t := 34) ?hr ?_; (case hd => rfl); (case hg => rfl); (case hr => first | (go_simp; done) | (go_simp; rfl)); intro g7 hg7 w4 hbox hb; have HX7 := Lib.hid hbox; have HB4 := Lib.hid hb; have HG7 := Lib.hid hg7; have z0 : w4.cell? ⟨g7, 0, none⟩ = some (.int .i64 0) := (blk_cell hbox 0).trans rfl; have z1 : w4.cell? ⟨g7, 1, none⟩ = some (.int .i64 0) := (blk_cell hbox 1).trans rfl; have z2 : w4.cell? ⟨g7, 2, none⟩ = some (.int .i64 0) := (blk_cell hbox 2).trans rfl; have z3 : w4.cell? ⟨g7, 3, none⟩ = some (.int .i64 0) := (blk_cell hbox 3).trans rfl; have y0 := blk_frozen hbox 0; have y1 := blk_frozen hbox 1; have y2 := blk_frozen hbox 2; have y3 := blk_frozen hbox 3; clear hbox hb hg7))
        obtain ⟨W5, hW5⟩ : ∃ W5, W5 = (((w4.setCell ⟨g7, 0, none⟩ (.int .i64 (k : Int))).setCell ⟨g7, 1, none⟩ (.int .i64 f1)).setCell ⟨g7, 2, none⟩ (.int .i64 f2)).setCell ⟨g7, 3, none⟩ (.int .i64 f3) := ⟨_, rfl⟩
        have HX5 : Hid (W5.heap[g7]? = some (.cells #[.int .i64 (k : Int), .int .i64 f1, .int .i64 f2, .int .i64 f3] 34 (0, 0))) := Lib.hid (by
          rw [hW5]
          have := blk_set (blk_set (blk_set (blk_set HX7.out 0 (.int .i64 (k : Int))) 1 (.int .i64 f1)) 2 (.int .i64 f2)) 3 (.int .i64 f3)
          simpa using this)
        have HB5 : Hid (Below wr.heap.size wr W5) := Lib.hid (by
          have hle : wr.heap.size ≤ g7 := by rw [HG7.out]; exact Nat.le_refl _
          rw [hW5]
          exact (((HB4.out.setCell (p := ⟨g7, 0, none⟩) hle _).setCell (p := ⟨g7, 1, none⟩) hle _).setCell (p := ⟨g7, 2, none⟩) hle _).setCell (p := ⟨g7, 3, none⟩) hle _)
        rw [← hW5]
        have HS5 : Hid (IsB W.heap.size b acc W5) := Lib.hid (HS2.out.below HB5.out)
        have HBW5 : Hid (Below W.heap.size W W5) := Lib.hid (HBW.out.trans (HB5.out.mono HBW.out.size))
        have q0 := pw_cell_below HB5.out k0
        have q1 := pw_cell_below HB5.out k1
        have q2 := pw_cell_below HB5.out k2
        have u0 : W5.cell? ⟨g7, 0, none⟩ = some (.int .i64 (k : Int)) := (blk_cell HX5.out 0).trans rfl
        clear hW5 HX7 HB4 z0 z1 z2 z3 y0 y1 y2 y3 k0 k1 k2 hx0 hx1 hx2 hx3 HS2
        have hgb : g7 ≠ b := by have h1 := HG7.out; have h2 := HBL.out; omega
        have HGB := Lib.hid hgb
        clear hgb HG7 HB5
        go_upto_region 9 with (first
          | ((with_reducible refine gate_dst (N := 8) rfl ?_); refine box_event ?hg (N := 8) ?hd (cs := #[.string ⟨#[]⟩, .bool false, .bool false]) (t := 106) ?hr ?_; (case hd => rfl); (case hg => rfl); (case hr => first | (go_simp; done) | (go_simp; rfl)); intro g8 hg8 w6 hbox hb; have HX8 := Lib.hid hbox; have HB6 := Lib.hid hb; have HG8 := Lib.hid hg8; have z0 : w6.cell? ⟨g8, 0, none⟩ = some (.string ⟨#[]⟩) := (blk_cell hbox 0).trans rfl; have z1 : w6.cell? ⟨g8, 1, none⟩ = some (.bool false) := (blk_cell hbox 1).trans rfl; have z2 : w6.cell? ⟨g8, 2, none⟩ = some (.bool false) := (blk_cell hbox 2).trans rfl; have y0 := blk_frozen hbox 0; have y1 := blk_frozen hbox 1; have y2 := blk_frozen hbox 2; clear hbox hb hg8))
        obtain ⟨W7, hW7⟩ : ∃ W7, W7 = ((w6.setCell ⟨g8, 0, none⟩ (.string wk)).setCell ⟨g8, 1, none⟩ (.bool vb)).setCell ⟨g8, 2, none⟩ (.bool zb) := ⟨_, rfl⟩
        have HP : Hid (PSt W W7 b g7 g8 acc (k : Int) f1 f2 f3 wk vb zb) := Lib.hid (by
          have hle : W5.heap.size ≤ g8 := by rw [HG8.out]; exact Nat.le_refl _
          have hb7 : Below W5.heap.size W5 W7 := by
            rw [hW7]
            exact ((HB6.out.setCell (p := ⟨g8, 0, none⟩) hle _).setCell (p := ⟨g8, 1, none⟩) hle _).setCell (p := ⟨g8, 2, none⟩) hle _
          refine ⟨HS5.out.below hb7, HBW5.out.trans (hb7.mono HBW5.out.size), (hb7.block g7 (blk_lt HX5.out)).trans HX5.out, ?_, HGB.out, ?_⟩
          · rw [hW7]
            have := blk_set (blk_set (blk_set HX8.out 0 (.string wk)) 1 (.bool vb)) 2 (.bool zb)
            simpa using this
          · have := HS5.out.lt
            omega)
        rw [← hW7]
        clear hW7 HX8 HB6 HG8 z0 z1 z2 y0 y1 y2 q0 q1 q2 u0 HX5 HS5 HBW5 HGB
        have HA : Hid (acc.length ≤ 6000) := Lib.hid hal
        have HWK : Hid (wk.data.toList.length ≤ 9) := Lib.hid (by rw [← Lib.size_eq]; exact hws)
        have I1 := Lib.hid (itoa_size f1 (by omega) (by omega))
        have I2 := Lib.hid (itoa_size f2 (by omega) (by omega))
        have I3 := Lib.hid (itoa_size f3 (by omega) (by omega))
        have F1 : Hid (-2147483648 ≤ f1 ∧ f1 ≤ 2147483647) := Lib.hid (by omega)
        have F2 : Hid (-2147483648 ≤ f2 ∧ f2 ≤ 2147483647) := Lib.hid (by omega)
        have F3 : Hid (-2147483648 ≤ f3 ∧ f3 ≤ 2147483647) := Lib.hid (by omega)
        clear hal hws h0 h1 h2 h3 hk0 hk1 hk10
        obtain ⟨z1, z2, z3, z4, z5, z6⟩ := HP.out.cells
        cases vb <;> cases zb
        all_goals
          go_wp2_with (first
            | (go_at_call 72; refine (ws_run wk HP.out.isb (by rw [Lib.size_eq]; have := HA.out; have := HWK.out; omega)).mono ?_; rintro x wA ⟨rfl, hA1, hA2, hA3⟩; have HQ := Lib.hid (HP.out.call hA1 hA2 hA3); clear hA1 hA2 hA3; clear HP z1 z2 z3 z4 z5 z6; have HP := HQ; clear HQ; obtain ⟨z1, z2, z3, z4, z5, z6⟩ := HP.out.cells)
            | (go_at_call 71; first
                | (with_reducible refine (put_run f1 F1.out.1 F1.out.2 HP.out.isb (by simp only [List.length_append, List.length_cons, List.length_nil]; have := HA.out; have := HWK.out; have := I1.out; have := I2.out; have := I3.out; omega) (IT.out.below HP.out.below)).mono ?_; rintro x wA ⟨rfl, hA1, hA2, hA3⟩; have HQ := Lib.hid (HP.out.call hA1 hA2 hA3); clear hA1 hA2 hA3; clear HP z1 z2 z3 z4 z5 z6; have HP := HQ; clear HQ; obtain ⟨z1, z2, z3, z4, z5, z6⟩ := HP.out.cells)
                | (with_reducible refine (put_run f2 F2.out.1 F2.out.2 HP.out.isb (by simp only [List.length_append, List.length_cons, List.length_nil]; have := HA.out; have := HWK.out; have := I1.out; have := I2.out; have := I3.out; omega) (IT.out.below HP.out.below)).mono ?_; rintro x wA ⟨rfl, hA1, hA2, hA3⟩; have HQ := Lib.hid (HP.out.call hA1 hA2 hA3); clear hA1 hA2 hA3; clear HP z1 z2 z3 z4 z5 z6; have HP := HQ; clear HQ; obtain ⟨z1, z2, z3, z4, z5, z6⟩ := HP.out.cells)
                | (with_reducible refine (put_run f3 F3.out.1 F3.out.2 HP.out.isb (by simp only [List.length_append, List.length_cons, List.length_nil]; have := HA.out; have := HWK.out; have := I1.out; have := I2.out; have := I3.out; omega) (IT.out.below HP.out.below)).mono ?_; rintro x wA ⟨rfl, hA1, hA2, hA3⟩; have HQ := Lib.hid (HP.out.call hA1 hA2 hA3); clear hA1 hA2 hA3; clear HP z1 z2 z3 z4 z5 z6; have HP := HQ; clear HQ; obtain ⟨z1, z2, z3, z4, z5, z6⟩ := HP.out.cells))
            | (go_at_call 73; refine (wb10_run HP.out.isb (by simp only [List.length_append, List.length_cons, List.length_nil]; have := HA.out; have := HWK.out; have := I1.out; have := I2.out; have := I3.out; omega)).mono ?_; rintro x wA ⟨rfl, hA1, hA2, hA3⟩; have HQ := Lib.hid (HP.out.call hA1 hA2 hA3); clear hA1 hA2 hA3; clear HP z1 z2 z3 z4 z5 z6; have HP := HQ; clear HQ; obtain ⟨z1, z2, z3, z4, z5, z6⟩ := HP.out.cells))
          go_roundw
          case rel => exact ⟨i + 1, by omega, by go_num, Lib.hid (by have := HP.out.isb; rw [HTK.out]; simpa using this), Lib.hid HP.out.below⟩
          case measure => simp [intOf]; omega
      · obtain rfl : i = l0.length := by omega
        rw [List.take_length] at HS2
        go_wp2_with (first
          | (go_at_call 74; refine (bst_run W.heap.size b (textL l0) wr HS2.out (by have := HBW.out.size; omega)).mono ?_; rintro x w9 ⟨rfl, hb9⟩; rw [← HTX.out]; have HB9 := Lib.hid (HBW.out.trans hb9); clear hb9))
        go_ret2
        exact ⟨rfl, HB9.out⟩
/-- Both tables lie in the world. -/
structure BTab (w : World) : Prop where
  k : KTab w
  i : ITab w
theorem BTab.below {w w' : World} (h : BTab w) (hb : Below w.heap.size w w') : BTab w' := ⟨h.k.below hb, h.i.below hb⟩
instance {w : World} : CoeOut (BTab w) (KTab w) := ⟨BTab.k⟩
theorem text_Print.calls (A0 : Option Addr) (c0 : Nat) (l0 : List S34) (r1 : ByteArray) (r2 : Int) (W : World) (hr0 : Kd.C k34 W A0 l0.length l0) (hc0 : l0.length ≤ c0) (h : text_Print.f l0 = some (r1, r2)) (hT : BTab W) :
    Calls Tryd.prog 33 #[.slice A0 l0.length c0] W fun e w' => e = .returned (.tuple #[.string r1, .int .i64 r2]) ∧ Below W.heap.size W w' :=
  text_Print.calls2 A0 c0 l0 r1 r2 W hr0 hc0 h hT.k hT.i
end Go.Proofs.YthkpocgbinmeiaaDoor.P

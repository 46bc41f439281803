/- (*table.keeper).take, by hand. -/
import Derived.Test.YtkjkceeopkfniaaDoorUNum
import Derived.Test.YtkjkceeopkfniaaDoorP0
import Derived.Test.YtkjkceeopkfniaaDoorGMap
import Derived.Deep.DeepCutAuto
import Derived.Lib.Hide
import Derived.Deep.RegionHeld3
namespace Go.Proofs.YtkjkceeopkfniaaDoor.P
set_option linter.unusedVariables false
set_option linter.unusedSimpArgs false
open Go Go.RowKit Go.Proofs.YtkjkceeopkfniaaDoorW.PrintWords Go.Proofs.YtkjkceeopkfniaaDoorW.PrintLast Go.Proofs.YtkjkceeopkfniaaDoorW.PrintMore Go.Proofs.YtkjkceeopkfniaaDoor.U

/-- A transaction, and what it asked last. -/
structure KP where
  name : Int
  first : Int
  last : Int
  st : Int
  ops : List S52
  asked : S36
def stF (k : Int) : Int := if k = 6 then 1 else if k = 7 then 2 else if k = 9 then 3 else 0
def opsF (k : KP) (e : S36) : List S52 := if e.f0 = 3 then k.ops ++ [⟨false, k.asked.f2, e.f3⟩] else if e.f0 = 5 then k.ops ++ [⟨true, k.asked.f2, k.asked.f3⟩] else k.ops
def askF (k : KP) (e : S36) : S36 := if e.f0 = 2 ∨ e.f0 = 4 then e else k.asked
def takeK (i : Int) (e : S36) (k : KP) : KP := ⟨k.name, k.first, i, stF e.f0, opsF k e, askF k e⟩
/-- A keeper lies in block b. -/
def KB (w : World) (b : Nat) (k : KP) (vo : Value) : Prop := w.heap[b]? = some (.cells #[.int .i64 k.name, .int .i64 k.first, .int .i64 k.last, .int .i64 k.st, vo, .int .i64 k.asked.f0, .int .i64 k.asked.f1, .int .i64 k.asked.f2, .int .i64 k.asked.f3] 104 (0, 0))
theorem infoOp : (Tryd.prog.info? 52).map (fun i => (i.zero, i.size, i.bytes)) = some (some (.agg #[.bool false, .int .i64 0, .int .i64 0]), 3, 24) := by kernel_rfl
/-- What take leaves. -/
structure TRes (W w' : World) (base b : Nat) (k' : KP) (vo : Value) : Prop where
  ex : ∃ A co, KB w' b k' (.slice A k'.ops.length co) ∧ Kd.R k52 52 w' base (fun q => q ≠ b) (.slice A k'.ops.length co) k'.ops ∧ ((Value.slice A k'.ops.length co).ownBlock = vo.ownBlock ∨ ∃ g, (Value.slice A k'.ops.length co).ownBlock = some g ∧ W.heap.size ≤ g)
  below : Below base W w'
  kept : Kept W w' (fun j => j = b ∨ some j = vo.ownBlock)
set_option maxHeartbeats 4000000 in
set_option maxRecDepth 100000 in
theorem take_run {W : World} {base b : Nat} {k : KP} {Ao : Option Addr} {co : Nat} (i : Int) (e : S36) (hK : KB W b k (.slice Ao k.ops.length co)) (hR : Kd.R k52 52 W base (fun q => q ≠ b) (.slice Ao k.ops.length co) k.ops) (hbase : base ≤ b) (hl : k.ops.length ≤ 100000) :
    Calls Tryd.prog 72 #[.pointer (some ⟨b, 0, none⟩), .int .i64 i, .agg #[.int .i64 e.f0, .int .i64 e.f1, .int .i64 e.f2, .int .i64 e.f3]] W fun x w' => x = .returned (.tuple #[]) ∧ TRes W w' base b (takeK i e k) (.slice Ao k.ops.length co) := by
  obtain ⟨name, first, last, st, ops, ⟨a0, a1, a2, a3⟩⟩ := k
  obtain ⟨f0, f1, f2, f3⟩ := e
  unfold KB at hK
  unfold takeK
  dsimp only at hK hR hl ⊢
  have HK := Lib.hid hK
  have HR := Lib.hid hR
  have HBS := Lib.hid hbase
  have HLL := Lib.hid hl
  clear hK hR hbase hl
  have z2 := blk_cell HK.out 2
  have z3 := blk_cell HK.out 3
  have y2 := blk_frozen HK.out 2
  have y3 := blk_frozen HK.out 3
  go_enter Tryd.func72, Tryd.ntmps72
  go_upto_region 1 with (first
    | ((with_reducible refine gate_dst (N := 5) rfl ?_); refine box_event ?hg (N := 5) ?hd (cs := #[.int .i64 f0, .int .i64 f1, .int .i64 f2, .int .i64 f3]) (t := 36) ?hr ?_; (case hd => rfl); (case hg => rfl); (case hr => first | (go_simp; done) | (go_simp; rfl)); intro g5 hg5 w4 hbox hb; have HX4 := Lib.hid hbox; have HB4 := Lib.hid hb; have HG5 := Lib.hid hg5; clear hbox hb hg5))
  have HK4 := Lib.hid (blk_below HK.out HB4.out)
  have HNE : Hid (b ≠ g5 ∧ g5 ≠ b) := Lib.hid (by have h1 := blk_lt HK.out; have h2 := HG5.out; omega)
  clear z2 z3 y2 y3
  have z2 := blk_cell HK4.out 2
  have z3 := blk_cell HK4.out 3
  have y2 := blk_frozen HK4.out 2
  have y3 := blk_frozen HK4.out 3
  go_upto_region 2 with (fail)
  obtain ⟨W5, hW5⟩ : ∃ W5, W5 = (w4.setCell ⟨b, 2, none⟩ (.int .i64 i)).setCell ⟨b, 3, none⟩ (.int .i64 0) := ⟨_, rfl⟩
  have HK5 : Hid (W5.heap[b]? = some (.cells #[.int .i64 name, .int .i64 first, .int .i64 i, .int .i64 0, .slice Ao ops.length co, .int .i64 a0, .int .i64 a1, .int .i64 a2, .int .i64 a3] 104 (0, 0))) := Lib.hid (by
    rw [hW5]
    have := blk_set (blk_set HK4.out 2 (.int .i64 i)) 3 (.int .i64 0)
    simpa using this)
  have HX5 : Hid (W5.heap[g5]? = some (.cells #[.int .i64 f0, .int .i64 f1, .int .i64 f2, .int .i64 f3] 36 (0, 0))) := Lib.hid (by
    rw [hW5]
    exact blk_far (p := ⟨b, 3, none⟩) (blk_far (p := ⟨b, 2, none⟩) HX4.out HNE.out.2 _) HNE.out.2 _)
  have HR5 : Hid (Kd.R k52 52 W5 base (fun q => q ≠ b) (.slice Ao ops.length co) ops) := Lib.hid (by
    rw [hW5]
    exact Kd.R_far (p := ⟨b, 3, none⟩) (Kd.R_far (p := ⟨b, 2, none⟩) (Kd.R_below HR.out HB4.out) (fun _ h => h) _) (fun _ h => h) _)
  have HBL5 : Hid (Below base W W5) := Lib.hid (by
    rw [hW5]
    exact ((HB4.out.mono (by have h1 := blk_lt HK.out; have h2 := HBS.out; omega)).setCell (p := ⟨b, 2, none⟩) HBS.out _).setCell (p := ⟨b, 3, none⟩) HBS.out _)
  have HKP5 : Hid (Kept W W5 (fun j => j = b ∨ some j = (Value.slice Ao ops.length co).ownBlock)) := Lib.hid (by
    rw [hW5]
    exact ((Kept.of_below HB4.out _).setCell (p := ⟨b, 2, none⟩) (.inl (.inl rfl)) _).setCell (p := ⟨b, 3, none⟩) (.inl (.inl rfl)) _)
  rw [← hW5]
  clear hW5 HK4 HX4 HB4 z2 z3 y2 y3 HK HR
  have u0 := blk_cell HX5.out 0
  have u1 := blk_cell HX5.out 1
  have u2 := blk_cell HX5.out 2
  have u3 := blk_cell HX5.out 3
  have c4 := blk_cell HK5.out 4
  have c7 := blk_cell HK5.out 7
  have c8 := blk_cell HK5.out 8
  have p3 := blk_frozen HK5.out 3
  have p5 := blk_frozen HK5.out 5
  have p6 := blk_frozen HK5.out 6
  have p7 := blk_frozen HK5.out 7
  have p8 := blk_frozen HK5.out 8
  have c3 := blk_cell HK5.out 3
  have c5 := blk_cell HK5.out 5
  have c6 := blk_cell HK5.out 6
  simp only [List.getElem?_toArray, List.getElem?_cons_zero, List.getElem?_cons_succ] at u0 u1 u2 u3 c3 c4 c5 c6 c7 c8
  by_cases h2 : f0 = 2
  · subst h2
    go_wp2
    first | go_end0 | ((try simp only [Exit.inBlock, Exit.then]); refine bodyPost_ret (results_none rfl _ _ _) rfl ?_)
    refine ⟨rfl, ⟨⟨Ao, co, ?_, ?_, .inl rfl⟩, ?_, ?_⟩⟩
    · have := blk_set (blk_set (blk_set (blk_set HK5.out 5 (.int .i64 2)) 6 (.int .i64 f1)) 7 (.int .i64 f2)) 8 (.int .i64 f3)
      unfold KB stF opsF askF
      simpa using this
    · exact Kd.R_far (p := ⟨b, 8, none⟩) (Kd.R_far (p := ⟨b, 7, none⟩) (Kd.R_far (p := ⟨b, 6, none⟩) (Kd.R_far (p := ⟨b, 5, none⟩) HR5.out (fun _ h => h) _) (fun _ h => h) _) (fun _ h => h) _) (fun _ h => h) _
    · exact (((HBL5.out.setCell (p := ⟨b, 5, none⟩) HBS.out _).setCell (p := ⟨b, 6, none⟩) HBS.out _).setCell (p := ⟨b, 7, none⟩) HBS.out _).setCell (p := ⟨b, 8, none⟩) HBS.out _
    · exact (((HKP5.out.setCell (p := ⟨b, 5, none⟩) (.inl (.inl rfl)) _).setCell (p := ⟨b, 6, none⟩) (.inl (.inl rfl)) _).setCell (p := ⟨b, 7, none⟩) (.inl (.inl rfl)) _).setCell (p := ⟨b, 8, none⟩) (.inl (.inl rfl)) _
  by_cases h4 : f0 = 4
  · subst h4
    go_wp2
    first | go_end0 | ((try simp only [Exit.inBlock, Exit.then]); refine bodyPost_ret (results_none rfl _ _ _) rfl ?_)
    refine ⟨rfl, ⟨⟨Ao, co, ?_, ?_, .inl rfl⟩, ?_, ?_⟩⟩
    · have := blk_set (blk_set (blk_set (blk_set HK5.out 5 (.int .i64 4)) 6 (.int .i64 f1)) 7 (.int .i64 f2)) 8 (.int .i64 f3)
      unfold KB stF opsF askF
      simpa using this
    · exact Kd.R_far (p := ⟨b, 8, none⟩) (Kd.R_far (p := ⟨b, 7, none⟩) (Kd.R_far (p := ⟨b, 6, none⟩) (Kd.R_far (p := ⟨b, 5, none⟩) HR5.out (fun _ h => h) _) (fun _ h => h) _) (fun _ h => h) _) (fun _ h => h) _
    · exact (((HBL5.out.setCell (p := ⟨b, 5, none⟩) HBS.out _).setCell (p := ⟨b, 6, none⟩) HBS.out _).setCell (p := ⟨b, 7, none⟩) HBS.out _).setCell (p := ⟨b, 8, none⟩) HBS.out _
    · exact (((HKP5.out.setCell (p := ⟨b, 5, none⟩) (.inl (.inl rfl)) _).setCell (p := ⟨b, 6, none⟩) (.inl (.inl rfl)) _).setCell (p := ⟨b, 7, none⟩) (.inl (.inl rfl)) _).setCell (p := ⟨b, 8, none⟩) (.inl (.inl rfl)) _
  by_cases h3 : f0 = 3
  · subst h3
    go_upto_region 7 with (fail)
    obtain ⟨W6, hW6⟩ : ∃ W6, W6 = W5.drew := ⟨_, rfl⟩
    have HK6 : Hid (W6.heap[b]? = some (.cells #[.int .i64 name, .int .i64 first, .int .i64 i, .int .i64 0, .slice Ao ops.length co, .int .i64 a0, .int .i64 a1, .int .i64 a2, .int .i64 a3] 104 (0, 0))) := Lib.hid (by rw [hW6]; exact HK5.out)
    have HO6 : Hid (Kd.R k52 52 W6 base (fun q => q ≠ b) (.slice Ao ops.length co) ops) := Lib.hid (by rw [hW6]; exact Kd.R_drew HR5.out)
    have HB6 : Hid (Below base W W6) := Lib.hid (by rw [hW6]; exact below_drew HBL5.out)
    have HKP6 : Hid (Kept W W6 (fun j => j = b ∨ some j = (Value.slice Ao ops.length co).ownBlock)) := Lib.hid (by rw [hW6]; exact HKP5.out)
    have HGB : Hid (base ≤ W6.heap.size) := Lib.hid (by have h1 := blk_lt HK6.out; have h2 := HBS.out; omega)
    have HFR : Hid (∀ q, W6.heap.size ≤ q → q ≠ b) := Lib.hid (fun q hq e => by have h1 := blk_lt HK6.out; omega)
    have HL : Hid ((ops.length + 1) * 24 ≤ 140737488355328) := Lib.hid (by have := HLL.out; omega)
    refine start_ (n := 20) (S := fun w' => w'.cell? ⟨b, 4, none⟩ = some (.slice Ao ops.length co) ∧ w'.cell? ⟨b, 7, none⟩ = some (.int .i64 a2) ∧ w'.cell? ⟨g5, 3, none⟩ = some (.int .i64 f3)) (ds := [15, 19]) #[false, false, false, false, false, false, false, false, false, false, false, false, false, false, false, false, false, false, false, false] (by kernel_rfl) rfl rfl ⟨c4, c7, u3⟩ (fun hHeld => ?_)
    rw [← hW6] at hHeld ⊢
    clear hW6
    clear u0 u1 u2 u3 c3 c4 c5 c6 c7 c8 p3 p5 p6 p7 p8
    refine pure_ (i := 0) (N := some 26) (v := ?_) (a' := ?_) #[true, false, false, false, false, false, false, false, false, false, false, false, false, false, false, false, false, false, false, false] rfl rfl (by kernel_rfl) (fun _ _ _ h => h) (Or.inl ⟨by rfl, ?_⟩) ?_ ?_
    rotate_left
    · intro w'
      go_simp
      with_reducible rfl
    rotate_left
    · simp only [Act.put, List.setIfInBounds_toArray, List.set_cons_zero, List.set_cons_succ, i64_w, i32_w]
      rfl
    refine pure_ (i := 1) (N := some 27) (v := ?_) (a' := ?_) #[true, true, false, false, false, false, false, false, false, false, false, false, false, false, false, false, false, false, false, false] rfl rfl (by kernel_rfl) (fun _ _ _ h => h) (Or.inl ⟨by rfl, ?_⟩) ?_ ?_
    rotate_left
    · intro w'
      go_simp
      with_reducible rfl
    rotate_left
    · simp only [Act.put, List.setIfInBounds_toArray, List.set_cons_zero, List.set_cons_succ, i64_w, i32_w]
      rfl
    refine pure_ (i := 2) (N := some 28) (v := ?_) (a' := ?_) #[true, true, true, false, false, false, false, false, false, false, false, false, false, false, false, false, false, false, false, false] rfl rfl (by kernel_rfl) (fun _ _ _ h => h) (Or.inl ⟨by rfl, ?_⟩) ?_ ?_
    rotate_left
    · intro w'
      go_simp
      with_reducible rfl
    rotate_left
    · simp only [Act.put, List.setIfInBounds_toArray, List.set_cons_zero, List.set_cons_succ, i64_w, i32_w]
      rfl
    refine pure_ (i := 3) (N := some 29) (v := ?_) (a' := ?_) #[true, true, true, true, false, false, false, false, false, false, false, false, false, false, false, false, false, false, false, false] rfl rfl (by kernel_rfl) (fun _ _ _ h => h) (Or.inl ⟨by rfl, ?_⟩) ?_ ?_
    rotate_left
    · intro w'
      go_simp
      with_reducible rfl
    rotate_left
    · simp only [Act.put, List.setIfInBounds_toArray, List.set_cons_zero, List.set_cons_succ, i64_w, i32_w]
      rfl
    refine pure_ (i := 4) (N := some 30) (v := ?_) (a' := ?_) #[true, true, true, true, true, false, false, false, false, false, false, false, false, false, false, false, false, false, false, false] rfl rfl (by kernel_rfl) (fun _ _ _ h => h) (Or.inl ⟨by rfl, ?_⟩) ?_ ?_
    rotate_left
    · intro w'
      go_simp
      with_reducible rfl
    rotate_left
    · simp only [Act.put, List.setIfInBounds_toArray, List.set_cons_zero, List.set_cons_succ, i64_w, i32_w]
      rfl
    refine pure_ (i := 6) (N := some 32) (v := ?_) (a' := ?_) #[true, true, true, true, true, false, true, false, false, false, false, false, false, false, false, false, false, false, false, false] rfl rfl (by kernel_rfl) (fun _ _ _ h => h) (Or.inl ⟨by rfl, ?_⟩) ?_ ?_
    rotate_left
    · intro w'
      go_simp
      with_reducible rfl
    rotate_left
    · simp only [Act.put, List.setIfInBounds_toArray, List.set_cons_zero, List.set_cons_succ, i64_w, i32_w]
      rfl
    refine pure_ (i := 7) (N := some 33) (v := ?_) (a' := ?_) #[true, true, true, true, true, false, true, true, false, false, false, false, false, false, false, false, false, false, false, false] rfl rfl (by kernel_rfl) (fun _ _ _ h => h) (Or.inl ⟨by rfl, ?_⟩) ?_ ?_
    rotate_left
    · intro w'
      go_simp
      with_reducible rfl
    rotate_left
    · simp only [Act.put, List.setIfInBounds_toArray, List.set_cons_zero, List.set_cons_succ, i64_w, i32_w]
      rfl
    refine pure_ (i := 8) (N := some 34) (v := ?_) (a' := ?_) #[true, true, true, true, true, false, true, true, true, false, false, false, false, false, false, false, false, false, false, false] rfl rfl (by kernel_rfl) (fun _ _ _ h => h) (Or.inl ⟨by rfl, ?_⟩) ?_ ?_
    rotate_left
    · intro w'
      go_simp
      with_reducible rfl
    rotate_left
    · simp only [Act.put, List.setIfInBounds_toArray, List.set_cons_zero, List.set_cons_succ, i64_w, i32_w]
      rfl
    refine pure_ (i := 9) (N := some 35) (v := ?_) (a' := ?_) #[true, true, true, true, true, false, true, true, true, true, false, false, false, false, false, false, false, false, false, false] rfl rfl (by kernel_rfl) (fun _ _ _ h => h) (Or.inl ⟨by rfl, ?_⟩) ?_ ?_
    rotate_left
    · intro w'
      go_simp
      with_reducible rfl
    rotate_left
    · simp only [Act.put, List.setIfInBounds_toArray, List.set_cons_zero, List.set_cons_succ, i64_w, i32_w]
      rfl
    refine pure_ (i := 11) (N := some 37) (v := ?_) (a' := ?_) #[true, true, true, true, true, false, true, true, true, true, false, true, false, false, false, false, false, false, false, false] rfl rfl (by kernel_rfl) (fun _ _ _ h => h) (Or.inl ⟨by rfl, ?_⟩) ?_ ?_
    rotate_left
    · intro w'
      go_simp
      with_reducible rfl
    rotate_left
    · simp only [Act.put, List.setIfInBounds_toArray, List.set_cons_zero, List.set_cons_succ, i64_w, i32_w]
      rfl
    refine take_ (i := 5) (N := some 31) (v := ?_) (a' := ?_) #[true, true, true, true, true, true, true, true, true, true, false, true, false, false, false, false, false, false, false, false] rfl rfl (by kernel_rfl) (fun _ _ _ h => h) (Or.inl ⟨by rfl, ?_⟩) hHeld ?_ ?_
    rotate_left
    · rintro w' ⟨s0, s1, s2⟩
      go_simp
      with_reducible rfl
    rotate_left
    · simp only [Act.put, List.setIfInBounds_toArray, List.set_cons_zero, List.set_cons_succ, i64_w, i32_w]
      rfl
    refine take_ (i := 10) (N := some 36) (v := ?_) (a' := ?_) #[true, true, true, true, true, true, true, true, true, true, true, true, false, false, false, false, false, false, false, false] rfl rfl (by kernel_rfl) (fun _ _ _ h => h) (Or.inl ⟨by rfl, ?_⟩) hHeld ?_ ?_
    rotate_left
    · rintro w' ⟨s0, s1, s2⟩
      go_simp
      with_reducible rfl
    rotate_left
    · simp only [Act.put, List.setIfInBounds_toArray, List.set_cons_zero, List.set_cons_succ, i64_w, i32_w]
      rfl
    refine take_ (i := 12) (N := some 38) (v := ?_) (a' := ?_) #[true, true, true, true, true, true, true, true, true, true, true, true, true, false, false, false, false, false, false, false] rfl rfl (by kernel_rfl) (fun _ _ _ h => h) (Or.inl ⟨by rfl, ?_⟩) hHeld ?_ ?_
    rotate_left
    · rintro w' ⟨s0, s1, s2⟩
      go_simp
      with_reducible rfl
    rotate_left
    · simp only [Act.put, List.setIfInBounds_toArray, List.set_cons_zero, List.set_cons_succ, i64_w, i32_w]
      rfl
    refine pure_ (i := 13) (N := some 39) (v := ?_) (a' := ?_) #[true, true, true, true, true, true, true, true, true, true, true, true, true, true, false, false, false, false, false, false] rfl rfl (by kernel_rfl) (fun _ _ _ h => h) (Or.inl ⟨by rfl, ?_⟩) ?_ ?_
    rotate_left
    · intro w'
      go_simp
      with_reducible rfl
    rotate_left
    · simp only [Act.put, List.setIfInBounds_toArray, List.set_cons_zero, List.set_cons_succ, i64_w, i32_w]
      rfl
    refine one_ (i := 14) (N := some 40) #[true, true, true, true, true, true, true, true, true, true, true, true, true, true, true, false, false, false, false, false] rfl rfl (by kernel_rfl) (by decide) (fun K hK => ?_)
    refine value_ (w1 := ?_) (v := ?_) (by rfl) rfl ?_ ?_
    rotate_left 2
    · go_simp
      constructor
      · rfl
      · rfl
    refine hK.out _ _ ⟨(pw_cell_below (below_alloc (Below.refl _ _) _) hHeld.1), (pw_cell_below (below_alloc (Below.refl _ _) _) hHeld.2.1), (pw_cell_below (below_alloc (Below.refl _ _) _) hHeld.2.2)⟩ (fun hHeld => ?_)
    clear hK K
    refine norm_ (a' := ?_) ?_ ?_
    rotate_left
    · show Act.put _ (some 40) _ = _
      simp only [Act.put, List.setIfInBounds_toArray, List.set_cons_zero, List.set_cons_succ, i64_w, i32_w]
      rfl
    refine last_ (i := 15) (N := some 41) #[true, true, true, true, true, true, true, true, true, true, true, true, true, true, true, true, false, false, false, false] rfl rfl (by kernel_rfl) (by decide) (fun K hK => ?_)
    refine Kd.R_append_step k52 (w0 := W) (W := W6) base (by rfl) (.tmp 31) (.tmp 40) 32 52 (.agg #[.bool false, .int .i64 0, .int .i64 0]) 24 rfl Tryd.underlying32 infoOp rfl (by decide) (by decide) (.slice Ao ops.length co) ops (⟨false, a2, f3⟩ : S52) [.bool false, .int .i64 a2, .int .i64 f3] (fun q => q ≠ b) (fun _ => False) rfl rfl (k52_mkM _ _ _ (⟨false, a2, f3⟩ : S52)) (fun _ h => h.elim) HFR.out HO6.out HB6.out HGB.out HL.out ?_
    intro v1 w1 hRow hBl hGr hAt
    obtain ⟨A1, cc1, rfl⟩ := Kd.R_slice hRow
    have HK7 := Lib.hid (blk_grown HK6.out hGr (fun e => HO6.out.1 b e.symm rfl))
    have f7 := blk_frozen HK7.out 4
    have c7 := blk_cell HK7.out 4
    have HROW := Lib.hid hRow
    have HBL := Lib.hid hBl
    have HGR := Lib.hid hGr
    have HAT := Lib.hid hAt
    clear hRow hBl hGr hAt
    refine hK.out _ _ ?_
    clear hK K
    refine norm_ (a' := ?_) ?_ ?_
    rotate_left
    · show Act.put _ (some 41) _ = _
      simp only [Act.put, List.setIfInBounds_toArray, List.set_cons_zero, List.set_cons_succ, i64_w, i32_w]
      rfl
    refine pure_ (i := 16) (N := some 42) (v := ?_) (a' := ?_) #[true, true, true, true, true, true, true, true, true, true, true, true, true, true, true, true, true, false, false, false] rfl rfl (by kernel_rfl) (fun _ _ _ h => h) (Or.inl ⟨by rfl, ?_⟩) ?_ ?_
    rotate_left
    · intro w'
      go_simp
      with_reducible rfl
    rotate_left
    · simp only [Act.put, List.setIfInBounds_toArray, List.set_cons_zero, List.set_cons_succ, i64_w, i32_w]
      rfl
    refine pure_ (i := 17) (N := some 43) (v := ?_) (a' := ?_) #[true, true, true, true, true, true, true, true, true, true, true, true, true, true, true, true, true, true, false, false] rfl rfl (by kernel_rfl) (fun _ _ _ h => h) (Or.inl ⟨by rfl, ?_⟩) ?_ ?_
    rotate_left
    · intro w'
      go_simp
      with_reducible rfl
    rotate_left
    · simp only [Act.put, List.setIfInBounds_toArray, List.set_cons_zero, List.set_cons_succ, i64_w, i32_w]
      rfl
    refine pure_ (i := 18) (N := some 44) (v := ?_) (a' := ?_) #[true, true, true, true, true, true, true, true, true, true, true, true, true, true, true, true, true, true, true, false] rfl rfl (by kernel_rfl) (fun _ _ _ h => h) (Or.inl ⟨by rfl, ?_⟩) ?_ ?_
    rotate_left
    · intro w'
      go_simp
      with_reducible rfl
    rotate_left
    · simp only [Act.put, List.setIfInBounds_toArray, List.set_cons_zero, List.set_cons_succ, i64_w, i32_w]
      rfl
    refine last_ (i := 19) (N := none) #[true, true, true, true, true, true, true, true, true, true, true, true, true, true, true, true, true, true, true, true] rfl rfl (by kernel_rfl) (by decide) (fun K hK => ?_)
    refine skip_ (w1 := ?_) (by rfl) rfl ?_ ?_
    rotate_left
    · go_simp
      rfl
    refine hK.out _ _ ?_
    clear hK K
    refine done_ (by kernel_rfl) ?_

    first | go_end0 | ((try simp only [Exit.inBlock, Exit.then]); refine bodyPost_ret (results_none rfl _ _ _) rfl ?_)
    have hle : (ops ++ [(⟨false, a2, f3⟩ : S52)]).length = ops.length + 1 := by simp
    refine ⟨rfl, ⟨⟨A1, cc1, ?_, ?_, ?_⟩, ?_, ?_⟩⟩
    · have := blk_set HK7.out 4 (.slice A1 (ops.length + 1) cc1)
      unfold KB stF opsF askF
      simpa using this
    · have hfar := Kd.R_far (p := ⟨b, 4, none⟩) HROW.out (fun _ h => h) (.slice A1 (ops.length + 1) cc1)
      unfold opsF
      simpa using hfar
    · have hat := HAT.out
      unfold opsF
      rcases hat with h | ⟨g, h, hg⟩
      · left; simpa [Value.ownBlock] using h
      · right; exact ⟨g, by simpa [Value.ownBlock] using h, Nat.le_trans HB6.out.size hg⟩
    · exact HBL.out.setCell (p := ⟨b, 4, none⟩) HBS.out _
    · exact (Kept.of_grown HGR.out HKP6.out (fun q hq => .inl (.inr hq.symm))).setCell (p := ⟨b, 4, none⟩) (.inl (.inl rfl)) _
  by_cases h5 : f0 = 5
  · subst h5
    go_upto_region 9 with (fail)
    obtain ⟨W6, hW6⟩ : ∃ W6, W6 = W5.drew := ⟨_, rfl⟩
    have HK6 : Hid (W6.heap[b]? = some (.cells #[.int .i64 name, .int .i64 first, .int .i64 i, .int .i64 0, .slice Ao ops.length co, .int .i64 a0, .int .i64 a1, .int .i64 a2, .int .i64 a3] 104 (0, 0))) := Lib.hid (by rw [hW6]; exact HK5.out)
    have HO6 : Hid (Kd.R k52 52 W6 base (fun q => q ≠ b) (.slice Ao ops.length co) ops) := Lib.hid (by rw [hW6]; exact Kd.R_drew HR5.out)
    have HB6 : Hid (Below base W W6) := Lib.hid (by rw [hW6]; exact below_drew HBL5.out)
    have HKP6 : Hid (Kept W W6 (fun j => j = b ∨ some j = (Value.slice Ao ops.length co).ownBlock)) := Lib.hid (by rw [hW6]; exact HKP5.out)
    have HGB : Hid (base ≤ W6.heap.size) := Lib.hid (by have h1 := blk_lt HK6.out; have h2 := HBS.out; omega)
    have HFR : Hid (∀ q, W6.heap.size ≤ q → q ≠ b) := Lib.hid (fun q hq e => by have h1 := blk_lt HK6.out; omega)
    have HL : Hid ((ops.length + 1) * 24 ≤ 140737488355328) := Lib.hid (by have := HLL.out; omega)
    refine start_ (n := 23) (S := fun w' => w'.cell? ⟨b, 4, none⟩ = some (.slice Ao ops.length co) ∧ w'.cell? ⟨b, 7, none⟩ = some (.int .i64 a2) ∧ w'.cell? ⟨b, 8, none⟩ = some (.int .i64 a3)) (ds := [18, 22]) #[false, false, false, false, false, false, false, false, false, false, false, false, false, false, false, false, false, false, false, false, false, false, false] (by kernel_rfl) rfl rfl ⟨c4, c7, c8⟩ (fun hHeld => ?_)
    rw [← hW6] at hHeld ⊢
    clear hW6
    clear u0 u1 u2 u3 c3 c4 c5 c6 c7 c8 p3 p5 p6 p7 p8
    refine pure_ (i := 0) (N := some 47) (v := ?_) (a' := ?_) #[true, false, false, false, false, false, false, false, false, false, false, false, false, false, false, false, false, false, false, false, false, false, false] rfl rfl (by kernel_rfl) (fun _ _ _ h => h) (Or.inl ⟨by rfl, ?_⟩) ?_ ?_
    rotate_left
    · intro w'
      go_simp
      with_reducible rfl
    rotate_left
    · simp only [Act.put, List.setIfInBounds_toArray, List.set_cons_zero, List.set_cons_succ, i64_w, i32_w]
      rfl
    refine pure_ (i := 1) (N := some 48) (v := ?_) (a' := ?_) #[true, true, false, false, false, false, false, false, false, false, false, false, false, false, false, false, false, false, false, false, false, false, false] rfl rfl (by kernel_rfl) (fun _ _ _ h => h) (Or.inl ⟨by rfl, ?_⟩) ?_ ?_
    rotate_left
    · intro w'
      go_simp
      with_reducible rfl
    rotate_left
    · simp only [Act.put, List.setIfInBounds_toArray, List.set_cons_zero, List.set_cons_succ, i64_w, i32_w]
      rfl
    refine pure_ (i := 2) (N := some 49) (v := ?_) (a' := ?_) #[true, true, true, false, false, false, false, false, false, false, false, false, false, false, false, false, false, false, false, false, false, false, false] rfl rfl (by kernel_rfl) (fun _ _ _ h => h) (Or.inl ⟨by rfl, ?_⟩) ?_ ?_
    rotate_left
    · intro w'
      go_simp
      with_reducible rfl
    rotate_left
    · simp only [Act.put, List.setIfInBounds_toArray, List.set_cons_zero, List.set_cons_succ, i64_w, i32_w]
      rfl
    refine pure_ (i := 3) (N := some 50) (v := ?_) (a' := ?_) #[true, true, true, true, false, false, false, false, false, false, false, false, false, false, false, false, false, false, false, false, false, false, false] rfl rfl (by kernel_rfl) (fun _ _ _ h => h) (Or.inl ⟨by rfl, ?_⟩) ?_ ?_
    rotate_left
    · intro w'
      go_simp
      with_reducible rfl
    rotate_left
    · simp only [Act.put, List.setIfInBounds_toArray, List.set_cons_zero, List.set_cons_succ, i64_w, i32_w]
      rfl
    refine pure_ (i := 4) (N := some 51) (v := ?_) (a' := ?_) #[true, true, true, true, true, false, false, false, false, false, false, false, false, false, false, false, false, false, false, false, false, false, false] rfl rfl (by kernel_rfl) (fun _ _ _ h => h) (Or.inl ⟨by rfl, ?_⟩) ?_ ?_
    rotate_left
    · intro w'
      go_simp
      with_reducible rfl
    rotate_left
    · simp only [Act.put, List.setIfInBounds_toArray, List.set_cons_zero, List.set_cons_succ, i64_w, i32_w]
      rfl
    refine pure_ (i := 6) (N := some 53) (v := ?_) (a' := ?_) #[true, true, true, true, true, false, true, false, false, false, false, false, false, false, false, false, false, false, false, false, false, false, false] rfl rfl (by kernel_rfl) (fun _ _ _ h => h) (Or.inl ⟨by rfl, ?_⟩) ?_ ?_
    rotate_left
    · intro w'
      go_simp
      with_reducible rfl
    rotate_left
    · simp only [Act.put, List.setIfInBounds_toArray, List.set_cons_zero, List.set_cons_succ, i64_w, i32_w]
      rfl
    refine pure_ (i := 7) (N := some 54) (v := ?_) (a' := ?_) #[true, true, true, true, true, false, true, true, false, false, false, false, false, false, false, false, false, false, false, false, false, false, false] rfl rfl (by kernel_rfl) (fun _ _ _ h => h) (Or.inl ⟨by rfl, ?_⟩) ?_ ?_
    rotate_left
    · intro w'
      go_simp
      with_reducible rfl
    rotate_left
    · simp only [Act.put, List.setIfInBounds_toArray, List.set_cons_zero, List.set_cons_succ, i64_w, i32_w]
      rfl
    refine pure_ (i := 8) (N := some 55) (v := ?_) (a' := ?_) #[true, true, true, true, true, false, true, true, true, false, false, false, false, false, false, false, false, false, false, false, false, false, false] rfl rfl (by kernel_rfl) (fun _ _ _ h => h) (Or.inl ⟨by rfl, ?_⟩) ?_ ?_
    rotate_left
    · intro w'
      go_simp
      with_reducible rfl
    rotate_left
    · simp only [Act.put, List.setIfInBounds_toArray, List.set_cons_zero, List.set_cons_succ, i64_w, i32_w]
      rfl
    refine pure_ (i := 9) (N := some 56) (v := ?_) (a' := ?_) #[true, true, true, true, true, false, true, true, true, true, false, false, false, false, false, false, false, false, false, false, false, false, false] rfl rfl (by kernel_rfl) (fun _ _ _ h => h) (Or.inl ⟨by rfl, ?_⟩) ?_ ?_
    rotate_left
    · intro w'
      go_simp
      with_reducible rfl
    rotate_left
    · simp only [Act.put, List.setIfInBounds_toArray, List.set_cons_zero, List.set_cons_succ, i64_w, i32_w]
      rfl
    refine pure_ (i := 11) (N := some 58) (v := ?_) (a' := ?_) #[true, true, true, true, true, false, true, true, true, true, false, true, false, false, false, false, false, false, false, false, false, false, false] rfl rfl (by kernel_rfl) (fun _ _ _ h => h) (Or.inl ⟨by rfl, ?_⟩) ?_ ?_
    rotate_left
    · intro w'
      go_simp
      with_reducible rfl
    rotate_left
    · simp only [Act.put, List.setIfInBounds_toArray, List.set_cons_zero, List.set_cons_succ, i64_w, i32_w]
      rfl
    refine pure_ (i := 12) (N := some 59) (v := ?_) (a' := ?_) #[true, true, true, true, true, false, true, true, true, true, false, true, true, false, false, false, false, false, false, false, false, false, false] rfl rfl (by kernel_rfl) (fun _ _ _ h => h) (Or.inl ⟨by rfl, ?_⟩) ?_ ?_
    rotate_left
    · intro w'
      go_simp
      with_reducible rfl
    rotate_left
    · simp only [Act.put, List.setIfInBounds_toArray, List.set_cons_zero, List.set_cons_succ, i64_w, i32_w]
      rfl
    refine pure_ (i := 13) (N := some 60) (v := ?_) (a' := ?_) #[true, true, true, true, true, false, true, true, true, true, false, true, true, true, false, false, false, false, false, false, false, false, false] rfl rfl (by kernel_rfl) (fun _ _ _ h => h) (Or.inl ⟨by rfl, ?_⟩) ?_ ?_
    rotate_left
    · intro w'
      go_simp
      with_reducible rfl
    rotate_left
    · simp only [Act.put, List.setIfInBounds_toArray, List.set_cons_zero, List.set_cons_succ, i64_w, i32_w]
      rfl
    refine pure_ (i := 14) (N := some 61) (v := ?_) (a' := ?_) #[true, true, true, true, true, false, true, true, true, true, false, true, true, true, true, false, false, false, false, false, false, false, false] rfl rfl (by kernel_rfl) (fun _ _ _ h => h) (Or.inl ⟨by rfl, ?_⟩) ?_ ?_
    rotate_left
    · intro w'
      go_simp
      with_reducible rfl
    rotate_left
    · simp only [Act.put, List.setIfInBounds_toArray, List.set_cons_zero, List.set_cons_succ, i64_w, i32_w]
      rfl
    refine take_ (i := 5) (N := some 52) (v := ?_) (a' := ?_) #[true, true, true, true, true, true, true, true, true, true, false, true, true, true, true, false, false, false, false, false, false, false, false] rfl rfl (by kernel_rfl) (fun _ _ _ h => h) (Or.inl ⟨by rfl, ?_⟩) hHeld ?_ ?_
    rotate_left
    · rintro w' ⟨s0, s1, s2⟩
      go_simp
      with_reducible rfl
    rotate_left
    · simp only [Act.put, List.setIfInBounds_toArray, List.set_cons_zero, List.set_cons_succ, i64_w, i32_w]
      rfl
    refine take_ (i := 10) (N := some 57) (v := ?_) (a' := ?_) #[true, true, true, true, true, true, true, true, true, true, true, true, true, true, true, false, false, false, false, false, false, false, false] rfl rfl (by kernel_rfl) (fun _ _ _ h => h) (Or.inl ⟨by rfl, ?_⟩) hHeld ?_ ?_
    rotate_left
    · rintro w' ⟨s0, s1, s2⟩
      go_simp
      with_reducible rfl
    rotate_left
    · simp only [Act.put, List.setIfInBounds_toArray, List.set_cons_zero, List.set_cons_succ, i64_w, i32_w]
      rfl
    refine take_ (i := 15) (N := some 62) (v := ?_) (a' := ?_) #[true, true, true, true, true, true, true, true, true, true, true, true, true, true, true, true, false, false, false, false, false, false, false] rfl rfl (by kernel_rfl) (fun _ _ _ h => h) (Or.inl ⟨by rfl, ?_⟩) hHeld ?_ ?_
    rotate_left
    · rintro w' ⟨s0, s1, s2⟩
      go_simp
      with_reducible rfl
    rotate_left
    · simp only [Act.put, List.setIfInBounds_toArray, List.set_cons_zero, List.set_cons_succ, i64_w, i32_w]
      rfl
    refine pure_ (i := 16) (N := some 63) (v := ?_) (a' := ?_) #[true, true, true, true, true, true, true, true, true, true, true, true, true, true, true, true, true, false, false, false, false, false, false] rfl rfl (by kernel_rfl) (fun _ _ _ h => h) (Or.inl ⟨by rfl, ?_⟩) ?_ ?_
    rotate_left
    · intro w'
      go_simp
      with_reducible rfl
    rotate_left
    · simp only [Act.put, List.setIfInBounds_toArray, List.set_cons_zero, List.set_cons_succ, i64_w, i32_w]
      rfl
    refine one_ (i := 17) (N := some 64) #[true, true, true, true, true, true, true, true, true, true, true, true, true, true, true, true, true, true, false, false, false, false, false] rfl rfl (by kernel_rfl) (by decide) (fun K hK => ?_)
    refine value_ (w1 := ?_) (v := ?_) (by rfl) rfl ?_ ?_
    rotate_left 2
    · go_simp
      constructor
      · rfl
      · rfl
    refine hK.out _ _ ⟨(pw_cell_below (below_alloc (Below.refl _ _) _) hHeld.1), (pw_cell_below (below_alloc (Below.refl _ _) _) hHeld.2.1), (pw_cell_below (below_alloc (Below.refl _ _) _) hHeld.2.2)⟩ (fun hHeld => ?_)
    clear hK K
    refine norm_ (a' := ?_) ?_ ?_
    rotate_left
    · show Act.put _ (some 64) _ = _
      simp only [Act.put, List.setIfInBounds_toArray, List.set_cons_zero, List.set_cons_succ, i64_w, i32_w]
      rfl
    refine last_ (i := 18) (N := some 65) #[true, true, true, true, true, true, true, true, true, true, true, true, true, true, true, true, true, true, true, false, false, false, false] rfl rfl (by kernel_rfl) (by decide) (fun K hK => ?_)
    refine Kd.R_append_step k52 (w0 := W) (W := W6) base (by rfl) (.tmp 52) (.tmp 64) 32 52 (.agg #[.bool false, .int .i64 0, .int .i64 0]) 24 rfl Tryd.underlying32 infoOp rfl (by decide) (by decide) (.slice Ao ops.length co) ops (⟨true, a2, a3⟩ : S52) [.bool true, .int .i64 a2, .int .i64 a3] (fun q => q ≠ b) (fun _ => False) rfl rfl (k52_mkM _ _ _ (⟨true, a2, a3⟩ : S52)) (fun _ h => h.elim) HFR.out HO6.out HB6.out HGB.out HL.out ?_
    intro v1 w1 hRow hBl hGr hAt
    obtain ⟨A1, cc1, rfl⟩ := Kd.R_slice hRow
    have HK7 := Lib.hid (blk_grown HK6.out hGr (fun e => HO6.out.1 b e.symm rfl))
    have f7 := blk_frozen HK7.out 4
    have c7 := blk_cell HK7.out 4
    have HROW := Lib.hid hRow
    have HBL := Lib.hid hBl
    have HGR := Lib.hid hGr
    have HAT := Lib.hid hAt
    clear hRow hBl hGr hAt
    refine hK.out _ _ ?_
    clear hK K
    refine norm_ (a' := ?_) ?_ ?_
    rotate_left
    · show Act.put _ (some 65) _ = _
      simp only [Act.put, List.setIfInBounds_toArray, List.set_cons_zero, List.set_cons_succ, i64_w, i32_w]
      rfl
    refine pure_ (i := 19) (N := some 66) (v := ?_) (a' := ?_) #[true, true, true, true, true, true, true, true, true, true, true, true, true, true, true, true, true, true, true, true, false, false, false] rfl rfl (by kernel_rfl) (fun _ _ _ h => h) (Or.inl ⟨by rfl, ?_⟩) ?_ ?_
    rotate_left
    · intro w'
      go_simp
      with_reducible rfl
    rotate_left
    · simp only [Act.put, List.setIfInBounds_toArray, List.set_cons_zero, List.set_cons_succ, i64_w, i32_w]
      rfl
    refine pure_ (i := 20) (N := some 67) (v := ?_) (a' := ?_) #[true, true, true, true, true, true, true, true, true, true, true, true, true, true, true, true, true, true, true, true, true, false, false] rfl rfl (by kernel_rfl) (fun _ _ _ h => h) (Or.inl ⟨by rfl, ?_⟩) ?_ ?_
    rotate_left
    · intro w'
      go_simp
      with_reducible rfl
    rotate_left
    · simp only [Act.put, List.setIfInBounds_toArray, List.set_cons_zero, List.set_cons_succ, i64_w, i32_w]
      rfl
    refine pure_ (i := 21) (N := some 68) (v := ?_) (a' := ?_) #[true, true, true, true, true, true, true, true, true, true, true, true, true, true, true, true, true, true, true, true, true, true, false] rfl rfl (by kernel_rfl) (fun _ _ _ h => h) (Or.inl ⟨by rfl, ?_⟩) ?_ ?_
    rotate_left
    · intro w'
      go_simp
      with_reducible rfl
    rotate_left
    · simp only [Act.put, List.setIfInBounds_toArray, List.set_cons_zero, List.set_cons_succ, i64_w, i32_w]
      rfl
    refine last_ (i := 22) (N := none) #[true, true, true, true, true, true, true, true, true, true, true, true, true, true, true, true, true, true, true, true, true, true, true] rfl rfl (by kernel_rfl) (by decide) (fun K hK => ?_)
    refine skip_ (w1 := ?_) (by rfl) rfl ?_ ?_
    rotate_left
    · go_simp
      rfl
    refine hK.out _ _ ?_
    clear hK K
    refine done_ (by kernel_rfl) ?_

    first | go_end0 | ((try simp only [Exit.inBlock, Exit.then]); refine bodyPost_ret (results_none rfl _ _ _) rfl ?_)
    have hle : (ops ++ [(⟨true, a2, a3⟩ : S52)]).length = ops.length + 1 := by simp
    refine ⟨rfl, ⟨⟨A1, cc1, ?_, ?_, ?_⟩, ?_, ?_⟩⟩
    · have := blk_set HK7.out 4 (.slice A1 (ops.length + 1) cc1)
      unfold KB stF opsF askF
      simpa using this
    · have hfar := Kd.R_far (p := ⟨b, 4, none⟩) HROW.out (fun _ h => h) (.slice A1 (ops.length + 1) cc1)
      unfold opsF
      simpa using hfar
    · have hat := HAT.out
      unfold opsF
      rcases hat with h | ⟨g, h, hg⟩
      · left; simpa [Value.ownBlock] using h
      · right; exact ⟨g, by simpa [Value.ownBlock] using h, Nat.le_trans HB6.out.size hg⟩
    · exact HBL.out.setCell (p := ⟨b, 4, none⟩) HBS.out _
    · exact (Kept.of_grown HGR.out HKP6.out (fun q hq => .inl (.inr hq.symm))).setCell (p := ⟨b, 4, none⟩) (.inl (.inl rfl)) _
  by_cases h6 : f0 = 6
  · subst h6
    go_wp2
    first | go_end0 | ((try simp only [Exit.inBlock, Exit.then]); refine bodyPost_ret (results_none rfl _ _ _) rfl ?_)
    refine ⟨rfl, ⟨⟨Ao, co, ?_, ?_, .inl rfl⟩, ?_, ?_⟩⟩
    · have := blk_set HK5.out 3 (.int .i64 1)
      unfold KB stF opsF askF
      simpa using this
    · exact Kd.R_far (p := ⟨b, 3, none⟩) HR5.out (fun _ h => h) _
    · exact HBL5.out.setCell (p := ⟨b, 3, none⟩) HBS.out _
    · exact HKP5.out.setCell (p := ⟨b, 3, none⟩) (.inl (.inl rfl)) _
  by_cases h7 : f0 = 7
  · subst h7
    go_wp2
    first | go_end0 | ((try simp only [Exit.inBlock, Exit.then]); refine bodyPost_ret (results_none rfl _ _ _) rfl ?_)
    refine ⟨rfl, ⟨⟨Ao, co, ?_, ?_, .inl rfl⟩, ?_, ?_⟩⟩
    · have := blk_set HK5.out 3 (.int .i64 2)
      unfold KB stF opsF askF
      simpa using this
    · exact Kd.R_far (p := ⟨b, 3, none⟩) HR5.out (fun _ h => h) _
    · exact HBL5.out.setCell (p := ⟨b, 3, none⟩) HBS.out _
    · exact HKP5.out.setCell (p := ⟨b, 3, none⟩) (.inl (.inl rfl)) _
  by_cases h9 : f0 = 9
  · subst h9
    go_wp2
    first | go_end0 | ((try simp only [Exit.inBlock, Exit.then]); refine bodyPost_ret (results_none rfl _ _ _) rfl ?_)
    refine ⟨rfl, ⟨⟨Ao, co, ?_, ?_, .inl rfl⟩, ?_, ?_⟩⟩
    · have := blk_set HK5.out 3 (.int .i64 3)
      unfold KB stF opsF askF
      simpa using this
    · exact Kd.R_far (p := ⟨b, 3, none⟩) HR5.out (fun _ h => h) _
    · exact HBL5.out.setCell (p := ⟨b, 3, none⟩) HBS.out _
    · exact HKP5.out.setCell (p := ⟨b, 3, none⟩) (.inl (.inl rfl)) _
  have q2 : (f0 == 2) = false := beq_eq_false_iff_ne.2 h2
  have q4 : (f0 == 4) = false := beq_eq_false_iff_ne.2 h4
  have q3 : (f0 == 3) = false := beq_eq_false_iff_ne.2 h3
  have q5 : (f0 == 5) = false := beq_eq_false_iff_ne.2 h5
  have q6 : (f0 == 6) = false := beq_eq_false_iff_ne.2 h6
  have q7 : (f0 == 7) = false := beq_eq_false_iff_ne.2 h7
  have q9 : (f0 == 9) = false := beq_eq_false_iff_ne.2 h9
  go_wp2
  first | go_end0 | ((try simp only [Exit.inBlock, Exit.then]); refine bodyPost_ret (results_none rfl _ _ _) rfl ?_)
  refine ⟨rfl, ⟨⟨Ao, co, ?_, ?_, .inl ?_⟩, HBL5.out, HKP5.out⟩⟩
  · have := HK5.out
    unfold KB stF opsF askF
    dsimp only
    rw [if_neg h6, if_neg h7, if_neg h9, if_neg h3, if_neg h5, if_neg (by omega)]
    exact this
  · unfold opsF
    dsimp only
    rw [if_neg h3, if_neg h5]
    exact HR5.out
  · unfold opsF
    dsimp only
    rw [if_neg h3, if_neg h5]
end Go.Proofs.YtkjkceeopkfniaaDoor.P

/- word.Int, given: the number that a text is. -/
import Derived.Test.YthkpocgbinmeiaaDoorUNum
import Derived.Test.YthkpocgbinmeiaaDoorP0
import Derived.Test.YthkpocgbinmeiaaDoorProg
import Derived.LoopTactic
import Derived.WalkKit
import Derived.OwnWalk
import Derived.Outline
import Derived.Lib.Hide
import Derived.Lib.Strings
import Derived.WalkSpells
import Derived.RangeFuncNested
import Derived.RangeFuncBox
namespace Go.Proofs.YthkpocgbinmeiaaDoor.P
set_option linter.unusedVariables false
set_option linter.unusedSimpArgs false
open Go Go.RowKit Go.Proofs.YthkpocgbinmeiaaDoor.U Go.Proofs.YthkpocgbinmeiaaDoorW.PrintWords Go.Proofs.YthkpocgbinmeiaaDoorW.PrintLast Go.Proofs.YthkpocgbinmeiaaDoorW.PrintMore

def digB (c : UInt8) : Bool := decide (48 ≤ c.toNat ∧ c.toNat ≤ 57)
def minusOf (s : ByteArray) : Bool := s.data.toList.head? == some 45
def restOf (s : ByteArray) : ByteArray := if minusOf s then s.extract 1 s.size else s
def intStep (p : Int × Bool) (c : UInt8) : Int × Bool := if p.1 > 2147483647 then (p.1, true) else (10 * p.1 + ((c.toNat : Int) - 48), p.2)
def intFold (l : List UInt8) : Int × Bool := l.foldl intStep (0, false)
def intVal (l : List UInt8) (minus : Bool) : Int × Int :=
  if l = [] ∨ (l.head? = some 48 ∧ (minus = true ∨ 1 < l.length)) then (0, 2)
  else if l.all digB then (if (intFold l).2 = true ∨ (if minus then -(intFold l).1 else (intFold l).1) < -2147483648 ∨ (if minus then -(intFold l).1 else (intFold l).1) > 2147483647 then (0, 3) else ((if minus then -(intFold l).1 else (intFold l).1), 0))
  else (0, 2)
theorem digit_any (c : UInt8) (w : World) : Calls Tryd.prog 56 #[.int .u8 (c.toNat : Int)] w fun e w' => e = .returned (.bool (digB c)) ∧ w = w' := by
  have hc := c.toNat_lt
  by_cases h1 : 48 ≤ c.toNat
  · by_cases h2 : c.toNat ≤ 57
    · have hd : digB c = true := by unfold digB; exact decide_eq_true ⟨h1, h2⟩
      have h3 : decide ((c.toNat : Int) ≤ 57) = true := decide_eq_true (by omega)
      go_enter Tryd.func56, Tryd.ntmps56
      go_wp2
      go_ret
      exact ⟨by first | rfl | (simp [hd]; done) | simp, rfl⟩
    · have hd : digB c = false := by unfold digB; exact decide_eq_false (fun h => h2 h.2)
      have h3 : decide ((c.toNat : Int) ≤ 57) = false := decide_eq_false (by omega)
      go_enter Tryd.func56, Tryd.ntmps56
      go_wp2
      go_ret
      exact ⟨by first | rfl | (simp [hd]; done) | simp, rfl⟩
  · have hd : digB c = false := by unfold digB; exact decide_eq_false (fun h => h1 h.1)
    go_enter Tryd.func56, Tryd.ntmps56
    go_wp2
    go_ret
    exact ⟨by first | rfl | (simp [hd]; done) | simp, rfl⟩
theorem cutPrefix_any (s : ByteArray) (hs : s.size ≤ 9223372036854775806) (w : World) : Calls Tryd.prog 54 #[.string s, .string ⟨#[45]⟩] w fun e w' => e = .returned (.tuple #[.string (restOf s), .bool (minusOf s)]) ∧ w = w' := by
  by_cases h0 : 1 ≤ s.size
  · have hp : ((s.extract 0 1).toList == [45]) = minusOf s := by
      rw [Lib.extract_toList]
      unfold minusOf
      rw [Lib.size_eq] at h0
      cases h : s.data.toList with
      | nil => rw [h] at h0; simp at h0
      | cons b l => simp
    unfold restOf
    cases hm : minusOf s with
    | true =>
      rw [hm] at hp
      go_enter Tryd.func54, Tryd.ntmps54
      go_wp2
      go_ret2
      exact ⟨rfl, rfl⟩
    | false =>
      rw [hm] at hp
      go_enter Tryd.func54, Tryd.ntmps54
      go_wp2
      go_ret2
      exact ⟨rfl, rfl⟩
  · have hm : minusOf s = false := by
      unfold minusOf
      rw [Lib.size_eq] at h0
      cases h : s.data.toList with
      | nil => rfl
      | cons b l => rw [h] at h0; simp at h0
    unfold restOf
    rw [hm]
    clear hm
    go_enter Tryd.func54, Tryd.ntmps54
    go_wp2
    go_ret2
    exact ⟨rfl, rfl⟩
theorem fold_snoc (l : List UInt8) (c : UInt8) : intFold (l ++ [c]) = intStep (intFold l) c := by unfold intFold; simp
theorem take_snoc (s : ByteArray) (k : Nat) (h : k < s.size) : s.data.toList.take (k + 1) = s.data.toList.take k ++ [s[k]] := by
  rw [List.take_succ_eq_append_getElem (by simpa using h)]; rfl
theorem fold_bd' (l : List UInt8) : ∀ p : Int × Bool, 0 ≤ p.1 ∧ p.1 ≤ 21474836479 → l.all digB = true → 0 ≤ (l.foldl intStep p).1 ∧ (l.foldl intStep p).1 ≤ 21474836479 := by
  induction l with
  | nil => intro p hp _; exact hp
  | cons c l ih =>
    intro p hp hl
    simp only [List.all_cons, Bool.and_eq_true] at hl
    have h2 : 48 ≤ c.toNat ∧ c.toNat ≤ 57 := by simpa [digB] using hl.1
    refine ih (intStep p c) ?_ hl.2
    unfold intStep
    split <;> (constructor <;> dsimp only <;> omega)
theorem fold_bd (l : List UInt8) (hl : l.all digB = true) : 0 ≤ (intFold l).1 ∧ (intFold l).1 ≤ 21474836479 := fold_bd' l (0, false) (by decide) hl
/-- One digit taken. -/
theorem one_any (c : UInt8) (hc : 48 ≤ c.toNat ∧ c.toNat ≤ 57) (W : World) (B1 B2 : Nat) (n : Int) (o : Bool) (hn : 0 ≤ n ∧ n ≤ 21474836479) (h1 : Boxed W B1 3 (.int .i64 n)) (h2 : Boxed W B2 4 (.bool o)) (hne : B1 ≠ B2) :
    Calls Tryd.prog 55 #[.int .u8 (c.toNat : Int), .pointer (some ⟨B1, 0, none⟩), .pointer (some ⟨B2, 0, none⟩)] W fun e W' => e = .returned (.tuple #[]) ∧ Boxed W' B1 3 (.int .i64 (intStep (n, o) c).1) ∧ Boxed W' B2 4 (.bool (intStep (n, o) c).2) ∧ (∀ n0, n0 ≤ B1 → n0 ≤ B2 → Below n0 W W') := by
  have hc1 := h1.cell
  have hf1 := h1.frozen
  have hc2 := h2.cell
  have hf2 := h2.frozen
  by_cases hg : n > 2147483647
  · have hd : decide (2147483647 < n) = true := decide_eq_true hg
    unfold intStep
    rw [if_pos hg]
    go_enter Tryd.func55, Tryd.ntmps55
    go_wp2
    refine bodyPost_ret (results_none rfl _ _ _) rfl ?_
    exact ⟨rfl, h1.other hne _, h2.set _, fun n0 _ hb => (Below.refl n0 W).setCell (p := ⟨B2, 0, none⟩) hb _⟩
  · have hd : decide (2147483647 < n) = false := decide_eq_false hg
    unfold intStep
    rw [if_neg hg]
    go_enter Tryd.func55, Tryd.ntmps55
    have hu := c.toNat_lt
    go_wp2
    go_end0
    refine ⟨rfl, ?_, h2.other (Ne.symm hne) _, fun n0 hb _ => (Below.refl n0 W).setCell (p := ⟨B1, 0, none⟩) hb _⟩
    exact h1.set _
def word_Int.f (a0 : ByteArray) : Option (Int × Int) := if a0.size ≤ 9223372036854775806 then some (intVal (restOf a0).data.toList (minusOf a0)) else none
set_option maxHeartbeats 1000000 in
theorem word_Int.calls (a0 : ByteArray) (r1 : Int) (r2 : Int) (w : World) (h : word_Int.f a0 = some (r1, r2)) :
    Calls Tryd.prog 21 #[.string a0] w fun e w' => e = .returned (.tuple #[.int .i64 r1, .int .i64 r2]) ∧ Below w.heap.size w w' := by
  unfold word_Int.f at h
  split at h
  case isFalse => cases h
  rename_i hs
  have hc := cutPrefix_any a0 hs w
  have hsz : (restOf a0).size ≤ 9223372036854775806 := by unfold restOf; split <;> first | (simp; omega) | omega
  obtain ⟨s, hS⟩ : ∃ s, s = restOf a0 := ⟨_, rfl⟩
  obtain ⟨m, hM⟩ : ∃ m, m = minusOf a0 := ⟨_, rfl⟩
  rw [← hS, ← hM] at hc h
  rw [← hS] at hsz
  have HV := Lib.hid (Option.some.inj h)
  clear hS hM hs h
  by_cases he : s.size = 0
  · have h1 : s.toList.isEmpty = true := by rw [Lib.toList_data]; rw [Lib.size_eq] at he; simpa using List.eq_nil_of_length_eq_zero he
    have hv : intVal s.data.toList m = (0, 2) := by unfold intVal; rw [if_pos (.inl (by rw [Lib.size_eq] at he; exact List.eq_nil_of_length_eq_zero he))]
    rw [hv] at HV
    have e1 := HV.out
    cases e1
    clear HV hv
    go_enter Tryd.func21, Tryd.ntmps21
    go_wp2_with (go_at_call 54; refine hc.mono ?_; rintro e w' ⟨rfl, rfl⟩)
    go_ret2
    exact ⟨rfl, Below.refl _ _⟩
  · have h1 : s.toList.isEmpty = false := by
      rw [Lib.toList_data]
      cases hl : s.data.toList with
      | nil => rw [Lib.size_eq, hl] at he; simp at he
      | cons b l => rfl
    have hp : 0 < s.size := by omega
    have hhead : s.data.toList.head? = some (s[0]'hp) := by
      rw [List.head?_eq_getElem?, List.getElem?_eq_getElem (by rw [← Lib.size_eq]; exact hp)]; rfl
    by_cases hZ : (s[0]'hp).toNat = 48 ∧ (m = true ∨ 1 < s.size)
    · have hv : intVal s.data.toList m = (0, 2) := by
        unfold intVal
        rw [if_pos (.inr ⟨by rw [hhead]; congr 1; exact UInt8.toNat_inj.1 hZ.1, by rw [← Lib.size_eq]; exact hZ.2⟩)]
      rw [hv] at HV
      have e1 := HV.out
      cases e1
      obtain ⟨hz, hz2⟩ := hZ
      have h48 : (((s[0]'hp).toNat : Int) == 48) = true := by simp; omega
      clear HV hv hhead hz
      cases m with
      | true =>
        go_enter Tryd.func21, Tryd.ntmps21
        go_wp2_with (go_at_call 54; refine hc.mono ?_; rintro e w' ⟨rfl, rfl⟩)
        go_ret2
        exact ⟨rfl, Below.refl _ _⟩
      | false =>
        have hgt : 1 < s.size := by simpa using hz2
        clear hz2
        go_enter Tryd.func21, Tryd.ntmps21
        go_wp2_with (go_at_call 54; refine hc.mono ?_; rintro e w' ⟨rfl, rfl⟩)
        go_ret2
        exact ⟨rfl, Below.refl _ _⟩
    · have hv : intVal s.data.toList m = if s.data.toList.all digB then (if (intFold s.data.toList).2 = true ∨ (if m then -(intFold s.data.toList).1 else (intFold s.data.toList).1) < -2147483648 ∨ (if m then -(intFold s.data.toList).1 else (intFold s.data.toList).1) > 2147483647 then (0, 3) else ((if m then -(intFold s.data.toList).1 else (intFold s.data.toList).1), 0)) else (0, 2) := by
        unfold intVal
        rw [if_neg]
        rintro (h2 | ⟨h2, h3⟩)
        · rw [Lib.size_eq, h2] at he; simp at he
        · rw [hhead] at h2
          refine hZ ⟨?_, by rw [Lib.size_eq]; exact h3⟩
          rw [Option.some.inj h2]; rfl
      rw [hv] at HV
      clear hv hhead
      obtain ⟨b, hb⟩ : ∃ b : UInt8, b = s[0]'hp := ⟨_, rfl⟩
      have hways : (((s[0]'hp).toNat : Int) == 48) = false ∨ ((((s[0]'hp).toNat : Int) == 48) = true ∧ m = false ∧ s.size ≤ 1) := by
        by_cases h5 : (s[0]'hp).toNat = 48
        · refine .inr ⟨by simp; omega, ?_, ?_⟩
          · cases m with
            | true => exact absurd ⟨h5, .inl rfl⟩ hZ
            | false => rfl
          · rcases Nat.lt_or_ge 1 s.size with h6 | h6
            · exact absurd ⟨h5, .inr h6⟩ hZ
            · exact h6
        · exact .inl (by simp; omega)
      clear hb hZ
      cases m <;> rcases hways with h48 | ⟨h48, hmf, hle⟩
      case true.inr => cases hmf
      all_goals
        go_enter Tryd.func21, Tryd.ntmps21
        go_wp2_with (go_at_call 54; refine hc.mono ?_; rintro e w' ⟨rfl, rfl⟩)
        go_loopw [33] (fun i wr => ∃ k : Nat, k ≤ s.size ∧ i = .int .i64 k ∧ Hid ((s.data.toList.take k).all digB = true) ∧ Boxed wr w.heap.size 3 (.int .i64 (intFold (s.data.toList.take k)).1) ∧ Boxed wr (w.heap.size + 1) 4 (.bool (intFold (s.data.toList.take k)).2) ∧ Below w.heap.size w wr) (fun i _ => s.size - (intOf i).toNat)
        case atStart => 
          have b1 := Boxed.new w 3 (.int .i64 0)
          have b2 := Boxed.new (w.alloc (.cells #[.int .i64 0] 3)) 4 (.bool false)
          rw [World.size_alloc] at b2
          exact ⟨0, Nat.zero_le _, rfl, Lib.hid rfl, b1.alloc _, b2, ((Below.refl _ w).alloc (Nat.le_refl _) _).alloc (by simp) _⟩
        case round =>
          obtain ⟨k, hk, rfl, hall, hb1, hb2, hB⟩ := hrel
          by_cases hlt : k < s.size
          · have hsn := Lib.hid (take_snoc s k hlt)
            have hd := digit_any (s[k]'hlt)
            have hbd := fold_bd _ hall.out
            obtain ⟨p, hp2⟩ : ∃ p, p = intFold (s.data.toList.take k) := ⟨_, rfl⟩
            rw [← hp2] at hb1 hb2 hbd
            have HP := Lib.hid hp2
            clear hp2
            cases hdig : digB (s[k]'hlt) with
            | false =>
              have hno : s.data.toList.all digB = false := by
                rw [Bool.eq_false_iff]
                intro h
                have := List.all_eq_true.mp h (s[k]'hlt) (by show s.data.toList[k]'(by rw [← Lib.size_eq]; exact hlt) ∈ _; exact List.getElem_mem _)
                rw [hdig] at this
                cases this
              have e1 := HV.out
              rw [hno] at e1
              cases e1
              rw [hdig] at hd
              have hd2 := fun w => Lib.hid (hd w)
              clear hd hdig hno HV
              go_wp2_with (go_at_call 56; refine (hd2 _).out.mono ?_; rintro e w' ⟨rfl, rfl⟩)
              go_ret2
              exact ⟨rfl, hB⟩
            | true =>
              have hdb : 48 ≤ (s[k]'hlt).toNat ∧ (s[k]'hlt).toNat ≤ 57 := by simpa [digB] using hdig
              have hone := Lib.hid (one_any (s[k]'hlt) hdb _ _ _ _ _ hbd hb1 hb2 (by omega))
              have hall2 := Lib.hid (show (s.data.toList.take (k + 1)).all digB = true by rw [hsn.out, List.all_append, hall.out]; simp [hdig])
              rw [hdig] at hd
              have hd2 := fun w => Lib.hid (hd w)
              clear hd hdig hdb
              go_wp2_with (first | (go_at_call 56; refine (hd2 _).out.mono ?_; rintro e w' ⟨rfl, rfl⟩) | (go_at_call 55; refine hone.out.mono ?_; rintro e w' ⟨rfl, g1, g2, gB⟩))
              go_roundw
              case rel => exact ⟨k + 1, by omega, by go_num, hall2, by rw [hsn.out, fold_snoc, ← HP.out]; exact g1, by rw [hsn.out, fold_snoc, ← HP.out]; exact g2, hB.trans (gB _ (Nat.le_refl _) (by omega))⟩
              case measure => simp [intOf]; omega
          · obtain rfl : k = s.size := by omega
            have hfull : s.data.toList.take s.size = s.data.toList := List.take_of_length_le (by rw [Lib.size_eq]; omega)
            rw [hfull] at hall hb1 hb2
            have hbd := fold_bd _ hall.out
            obtain ⟨⟨n, o⟩, hp2⟩ : ∃ p, p = intFold s.data.toList := ⟨_, rfl⟩
            have e1 := HV.out
            rw [← hp2] at hb1 hb2 hbd e1
            rw [hall.out] at e1
            dsimp only at hb1 hb2 hbd e1
            clear hp2 hfull hall HV
            have hc1 := hb1.cell
            have hc2 := hb2.cell
            have hf1 := hb1.frozen
            cases o with
            | true =>
              rw [if_pos rfl, if_pos (.inl rfl)] at e1
              cases e1
              go_wp2
              go_ret2
              exact ⟨rfl, by first | exact hB | exact hB.setCell (p := ⟨w.heap.size, 0, none⟩) (Nat.le_refl _) _⟩
            | false =>
              simp only [Bool.false_eq_true, false_or, if_true, if_false] at e1
              split at e1
              · rename_i hbad
                cases e1
                first
                | (have h7 : n > 2147483647 := by omega
                   clear hbad
                   go_wp2
                   go_ret2
                   exact ⟨rfl, hB⟩)
                | (have h7 : -n < -2147483648 := by omega
                   clear hbad
                   go_wp2
                   go_ret2
                   exact ⟨rfl, hB.setCell (p := ⟨w.heap.size, 0, none⟩) (Nat.le_refl _) _⟩)
              · rename_i hgood
                cases e1
                first
                | (have h7 : r1 ≤ 2147483647 := by omega
                   clear hgood
                   go_wp2
                   go_ret2
                   exact ⟨rfl, hB⟩)
                | (have h7 : n ≤ 2147483648 := by omega
                   clear hgood
                   go_wp2
                   go_ret2
                   exact ⟨rfl, hB.setCell (p := ⟨w.heap.size, 0, none⟩) (Nat.le_refl _) _⟩)
end Go.Proofs.YthkpocgbinmeiaaDoor.P

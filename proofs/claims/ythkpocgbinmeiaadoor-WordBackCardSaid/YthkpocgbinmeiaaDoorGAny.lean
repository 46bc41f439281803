/- strings.ContainsAny of " \t#", given: false, where no byte is one of the three. -/
import Derived.Test.YthkpocgbinmeiaaDoorUNum
import Derived.Test.YthkpocgbinmeiaaDoorP0
import Derived.Test.YthkpocgbinmeiaaDoorGRune
import Derived.Test.YthkpocgbinmeiaaDoorProg
import Derived.Shelf.Strings.IndexAnyAll
import Derived.Lib.OthersKept
import Derived.Lib.MapLaws
import Derived.Below
import Derived.Lib.Hide
namespace Go.Proofs.YthkpocgbinmeiaaDoor.P
set_option linter.unusedVariables false
set_option linter.unusedSimpArgs false
open Go Go.RowKit Go.Shelf Go.Proofs.YthkpocgbinmeiaaDoor.U Go.Proofs.YthkpocgbinmeiaaDoorW.PrintWords Go.Proofs.YthkpocgbinmeiaaDoorW.PrintLast Go.Proofs.YthkpocgbinmeiaaDoorW.PrintMore

def laysAny_ren : Go.Shelf.Ren := ⟨fun | 153 => 77 | 152 => 101 | 226 => 102 | 227 => 103 | 228 => 104 | 137 => 113 | 119 => 114 | 224 => 115 | 225 => 116 | 217 => 122 | 266 => 129 | n => n, fun | 9 => 9 | 3 => 3 | 4 => 4 | 5 => 5 | 21 => 21 | 117 => 137 | 116 => 136 | 0 => 0 | 46 => 113 | 124 => 148 | n => n, fun | n => n⟩
theorem laysAny : Go.Proofs.Lays.n153 Tryd.prog laysAny_ren where
  mixed := by kernel_rfl
  f119 := Tryd.func114.trans (congrArg some (by kernel_rfl))
  f137 := Tryd.func113.trans (congrArg some (by kernel_rfl))
  f152 := Tryd.func101.trans (congrArg some (by kernel_rfl))
  f153 := Tryd.func77.trans (congrArg some (by kernel_rfl))
  f217 := Tryd.func122.trans (congrArg some (by kernel_rfl))
  f224 := Tryd.func115.trans (congrArg some (by kernel_rfl))
  f225 := Tryd.func116.trans (congrArg some (by kernel_rfl))
  f226 := Tryd.func102.trans (congrArg some (by kernel_rfl))
  f227 := Tryd.func103.trans (congrArg some (by kernel_rfl))
  f228 := Tryd.func104.trans (congrArg some (by kernel_rfl))
  f266 := Tryd.func129.trans (congrArg some (by kernel_rfl))
  t0 := Tryd.underlying0
  a0 := Tryd.isAgg0
  z0 := Tryd.sizeOf0
  v0 := Tryd.zeroValue0
  t3 := Tryd.underlying3
  a3 := Tryd.isAgg3
  z3 := Tryd.sizeOf3
  v3 := Tryd.zeroValue3
  t4 := Tryd.underlying4
  a4 := Tryd.isAgg4
  z4 := Tryd.sizeOf4
  v4 := Tryd.zeroValue4
  t5 := Tryd.underlying5
  a5 := Tryd.isAgg5
  z5 := Tryd.sizeOf5
  v5 := Tryd.zeroValue5
  t9 := Tryd.underlying9
  a9 := Tryd.isAgg9
  z9 := Tryd.sizeOf9
  v9 := Tryd.zeroValue9
  t21 := Tryd.underlying21
  a21 := Tryd.isAgg21
  z21 := Tryd.sizeOf21
  v21 := Tryd.zeroValue21
  t46 := Tryd.underlying113
  a46 := Tryd.isAgg113
  z46 := Tryd.sizeOf113
  v46 := Tryd.zeroValue113
  t116 := Tryd.underlying136
  a116 := Tryd.isAgg136
  z116 := Tryd.sizeOf136
  t117 := Tryd.underlying137
  a117 := Tryd.isAgg137
  z117 := Tryd.sizeOf137
  v117 := Tryd.zeroValue137
  t124 := Tryd.underlying148
  a124 := Tryd.isAgg148
  z124 := Tryd.sizeOf148
  v124 := Tryd.zeroValue148

/-- " \t#". -/
abbrev chs : ByteArray := ⟨#[32, 9, 35]⟩
def noneB (l : List UInt8) : Bool := l.all fun c => c != 32 && c != 9 && c != 35
theorem noneB_at {l : List UInt8} (h : noneB l = true) {i : Nat} {x : UInt8} (hx : l[i]? = some x) : x ≠ 32 ∧ x ≠ 9 ∧ x ≠ 35 := by
  have := List.all_eq_true.1 h x (List.mem_of_getElem? hx)
  simp only [Bool.and_eq_true, bne_iff_ne] at this
  exact ⟨this.1.1, this.1.2, this.2⟩
theorem idx_none {x : UInt8} (h : x ≠ 32 ∧ x ≠ 9 ∧ x ≠ 35) : Lib.indexByte chs.data.toList x = -1 := by
  show Lib.indexByte [32, 9, 35] x = -1
  have a : ((32 : UInt8) == x) = false := beq_eq_false_iff_ne.2 fun e => h.1 e.symm
  have b : ((9 : UInt8) == x) = false := beq_eq_false_iff_ne.2 fun e => h.2.1 e.symm
  have c : ((35 : UInt8) == x) = false := beq_eq_false_iff_ne.2 fun e => h.2.2 e.symm
  simp [Lib.indexByte, a, b, c]
theorem cont_none {x : UInt8} (h : x ≠ 32 ∧ x ≠ 9 ∧ x ≠ 35) : chs.data.toList.contains x = false := by
  rw [Lib.contains_iff_indexByte, idx_none h]; rfl
set_option maxHeartbeats 4000000 in
set_option maxRecDepth 1000000 in
theorem rune_error (w : World) : Calls Tryd.prog 101 #[.string ⟨#[32, 9, 35]⟩, .int .i32 65533] w fun e w' => e = .returned (.int .i64 (-1)) ∧ Below w.heap.size w w' := by
  go_enter Tryd.func101, Tryd.ntmps101
  go_wp2
  go_loopg [5, 6] 3 (fun g _ _ wx => ∃ i : Nat, i + g = 3 ∧ wx = w.iter ⟨#[32, 9, 35]⟩ i)
  case atStart => exact ⟨0, by omega, rfl⟩
  case round =>
    obtain ⟨i, hig, rfl⟩ := hrel
    have hsz : (⟨#[32, 9, 35]⟩ : ByteArray).size = 3 := rfl
    cases gk with
    | zero =>
      obtain rfl : i = 3 := by omega
      have hnx := run_next_end (P := Tryd.prog) w ⟨#[32, 9, 35]⟩ 3
      go_wp2
      go_ret
      exact ⟨rfl, (Below.refl _ _).alloc (Nat.le_refl _) _⟩
    | succ g =>
      have hi : i < (⟨#[32, 9, 35]⟩ : ByteArray).size := by omega
      obtain ⟨x, hx⟩ : ∃ x : UInt8, (⟨#[32, 9, 35]⟩ : ByteArray)[i]'hi = x := ⟨_, rfl⟩
      have hx128 : x.toNat < 128 := by
        have hm : x ∈ chs.data.toList := by rw [← hx]; exact Array.getElem_mem_toList (xs := chs.data) hi
        have : ∀ y ∈ ([32, 9, 35] : List UInt8), y.toNat < 128 := by decide
        exact this x hm
      have hnx := fun ty => run_next_ascii (P := Tryd.prog) w ⟨#[32, 9, 35]⟩ i ty hi (by rw [hx]; exact hx128)
      rw [hx] at hnx
      have hne : ((x.toNat : Int) == 65533) = false := beq_eq_false_iff_ne.2 (by omega)
      clear hx
      go_wp2
      go_roundg g
      case measure => omega
      case rel => exact ⟨i + 1, by omega, rfl⟩
theorem get_at (s : ByteArray) (i : Nat) (h : i < s.size) : s.data.toList[i]? = some (s.get! i) := by
  rw [Lib.data_getElem? s i h]
  simp [ByteArray.get!, getElem!_pos, h]
  rfl
/-- What is decoded at a place is the byte there, or a rune of 128 or more; it goes on by one or more, not over the end. -/
theorem decode_or (s : ByteArray) (i : Nat) (h : i < s.size) : (((Utf8.decode s i).1 = (s.get! i).toNat ∧ (s.get! i).toNat < 128) ∨ (128 ≤ (Utf8.decode s i).1 ∧ (Utf8.decode s i).1 ≤ 1114111)) ∧ 1 ≤ (Utf8.decode s i).2 ∧ i + (Utf8.decode s i).2 ≤ s.size := by
  rw [Lib.decode_at]
  have k0 := (s.get! i).toNat_lt
  have k1 := (s.get! (i + 1)).toNat_lt
  rcases Lib.decodeN_shape (s.size - i) (s.get! i).toNat (s.get! (i + 1)).toNat (s.get! (i + 2)).toNat (s.get! (i + 3)).toNat with ⟨c, e⟩ | ⟨c1, c2, c3, c4, e⟩ | ⟨c1, c2, c3, c4, c5, c6, e⟩ | ⟨c1, c2, c3, c4, c5, c6, c7, e⟩ | e
  all_goals
    rw [e]
    dsimp only
    refine ⟨?_, by omega, by omega⟩
    first | exact .inl ⟨rfl, c⟩ | exact .inr ⟨by omega, by omega⟩
theorem any_rune (s : ByteArray) (i : Nat) (hi : i < s.size) (hn : noneB s.data.toList = true) (w : World) : Calls Tryd.prog 101 #[.string ⟨#[32, 9, 35]⟩, .int .i32 ((Utf8.decode s i).1 : Int)] w fun e w' => e = .returned (.int .i64 (-1)) ∧ Below w.heap.size w w' := by
  obtain ⟨hr, _, _⟩ := decode_or s i hi
  rcases hr with ⟨h1, h2⟩ | ⟨h1, h2⟩
  · rw [h1]
    refine (Any.strings_IndexRune_ascii { laysAny with } ⟨#[32, 9, 35]⟩ ((s.get! i).toNat : Int) w (by omega) (by omega)).mono ?_
    rintro e w' ⟨rfl, rfl⟩
    have hb : (((s.get! i).toNat : Int)).toNat.toUInt8 = s.get! i := by simp
    rw [hb]
    exact ⟨by rw [idx_none (noneB_at hn (get_at s i hi))], Below.refl _ _⟩
  · obtain ⟨r, hr⟩ : ∃ r : Int, ((Utf8.decode s i).1 : Int) = r := ⟨_, rfl⟩
    rw [hr]
    have g0 : 128 ≤ r := by omega
    have g1 : r ≤ 1114111 := by omega
    by_cases h3 : r = 65533
    · rw [h3]; exact rune_error w
    · cases hv : vB r with
      | false => exact rune_invalid r w g0 g1 h3 hv
      | true =>
        obtain ⟨f1, f2, f3⟩ := encode_facts r (vB_valid g0 g1 hv) g0
        have f3 := f3 (by omega)
        obtain ⟨q, hq⟩ : ∃ q, Utf8.encode r = q := ⟨_, rfl⟩
        have f4 : ∀ (n : Nat) (hn : n < q.size), n + 1 = q.size → 128 ≤ (q[n]'hn).toNat := by
          subst hq
          intro n hn he
          have : n = (Utf8.encode r).size - 1 := by omega
          subst this
          exact f3
        rw [hq] at f1 f2
        by_cases e2 : q.size = 2
        · exact rune_valid2 r w g0 g1 h3 hv q hq e2 _ rfl (f4 1 (by omega) (by omega))
        · by_cases e3 : q.size = 3
          · exact rune_valid3 r w g0 g1 h3 hv q hq e3 _ rfl (f4 2 (by omega) (by omega))
          · exact rune_valid4 r w g0 g1 h3 hv q hq (by omega)
theorem h116 : (Tryd.prog.info? (laysAny_ren.t 116)).map (fun i => (i.zero, i.size)) = some (some (.agg (Array.replicate 256 (.bool false))), 256) := by kernel_rfl
set_option maxHeartbeats 8000000 in
set_option maxRecDepth 1000000 in
theorem any_short (s : ByteArray) (h8 : s.size ≤ 8) (hn : noneB s.data.toList = true) (w : World) : Calls Tryd.prog 77 #[.string s, .string ⟨#[32, 9, 35]⟩] w fun e w' => e = .returned (.int .i64 (-1)) ∧ Below w.heap.size w w' := by
  have HA : Aside (noneB s.data.toList = true) := hn
  clear hn
  have h8z : decide ((8 : Int) < (s.size : Int)) = false := decide_eq_false (by omega)
  go_enter Tryd.func77, Tryd.ntmps77
  go_wp2_with (go_at_call 102; refine (Any.strings_shouldUseASCIISet { laysAny with } _ _).mono ?_; rintro e w' ⟨rfl, hw⟩; rw [hw, h8z])
  go_loopg [9, 10] s.size (fun g _ _ wx => ∃ wk, wk = wx ∧ g ≤ s.size ∧ Below w.heap.size w wk ∧ wk.heap[w.heap.size]? = some (.stringIter s (s.size - g)))
  case atStart => exact ⟨_, rfl, Nat.le_refl _, (Below.refl _ _).alloc (Nat.le_refl _) _, by rw [Nat.sub_self]; exact World.iter_heap _ _ _⟩
  case round =>
    obtain ⟨wk, hwk, hg, hb, hit⟩ := hrel
    subst hwk
    have HB : Aside (Below w.heap.size w wk) := hb
    clear hb
    by_cases hz : gk = 0
    · subst hz
      have hnx := fun ty => Lib.run_next_end_at (P := Tryd.prog) wk w.heap.size s (s.size - 0) ty hit (by omega)
      go_wp2
      go_ret
      exact ⟨rfl, HB.out⟩
    · have hi : s.size - gk < s.size := by omega
      have hnx := fun ty => Lib.run_next_any_at (P := Tryd.prog) wk w.heap.size s (s.size - gk) ty hit hi
      obtain ⟨_, hw1, hw2⟩ := decode_or s (s.size - gk) hi
      have hr := fun w' => any_rune s (s.size - gk) hi HA.out w'
      have hit2 := Lib.iterAt_heap wk w.heap.size s (s.size - gk) (s.size - gk + (Utf8.decode s (s.size - gk)).2) hit
      have HB2 : Aside (Below w.heap.size w (wk.iterAt w.heap.size s (s.size - gk + (Utf8.decode s (s.size - gk)).2))) := Lib.below_iterAt HB.out (Nat.le_refl _) _ _
      have hlt : w.heap.size < wk.heap.size := (Array.getElem?_eq_some_iff.1 hit).1
      have hsz := Lib.iterAt_size wk w.heap.size s (s.size - gk + (Utf8.decode s (s.size - gk)).2)
      clear hit
      generalize hW2 : wk.iterAt w.heap.size s (s.size - gk + (Utf8.decode s (s.size - gk)).2) = W2 at *
      generalize hR : ((Utf8.decode s (s.size - gk)).1 : Int) = R at *
      generalize hD : (Utf8.decode s (s.size - gk)).2 = D at *
      go_wp2_with (go_at_call 101; refine (hr _).mono ?_; rintro e w' ⟨rfl, hw⟩)
      go_roundg (gk - D)
      case measure => omega
      case rel =>
        refine ⟨_, rfl, by omega, HB2.out.trans (hw.mono (by omega)), ?_⟩
        rw [hw.block _ (by omega), hit2]
        congr 2
        omega
theorem index_any (s : ByteArray) (hs : s.size < 4294967281) (hn : noneB s.data.toList = true) (w : World) : Calls Tryd.prog 77 #[.string s, .string ⟨#[32, 9, 35]⟩] w fun e w' => e = .returned (.int .i64 (-1)) ∧ Below w.heap.size w w' := by
  by_cases h8 : 8 < s.size
  · refine (Any.strings_IndexAny_long laysAny (zero_of_info h116).1 (zero_of_info h116).2 s ⟨#[32, 9, 35]⟩ w (by decide) h8 hs (by decide) ?_).mono ?_
    · intro j b hb
      have hm : b ∈ ([32, 9, 35] : List UInt8) := List.mem_of_getElem? hb
      have : ∀ y ∈ ([32, 9, 35] : List UInt8), y.toNat < 128 := by decide
      exact this b hm
    · rintro e w' ⟨rfl, rfl⟩
      refine ⟨?_, ((Below.refl _ _).alloc (Nat.le_refl _) _).alloc (by simp) _⟩
      rw [Lib.indexAny_none]
      intro j b _ hb
      exact cont_none (noneB_at hn hb)
  · exact any_short s (by omega) hn w
def strings_ContainsAny.f (s c : ByteArray) : Option Bool := if c = ⟨#[32, 9, 35]⟩ ∧ s.size < 4294967281 ∧ noneB s.data.toList = true then some false else none
theorem strings_ContainsAny.calls (a0 a1 : ByteArray) (r : Bool) (w : World) (h : strings_ContainsAny.f a0 a1 = some r) :
    Calls Tryd.prog 36 #[.string a0, .string a1] w fun e w' => e = .returned (.bool r) ∧ Below w.heap.size w w' := by
  unfold strings_ContainsAny.f at h
  split at h
  case isFalse => cases h
  case isTrue hb =>
    obtain ⟨rfl, hs, hn⟩ := hb
    injection h with h
    subst h
    go_enter Tryd.func36, Tryd.ntmps36
    go_wp2_with (go_at_call 77; refine (index_any _ hs hn _).mono ?_; rintro e w' ⟨rfl, hw⟩)
    go_ret
    exact ⟨rfl, hw⟩
end Go.Proofs.YthkpocgbinmeiaaDoor.P

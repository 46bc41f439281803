/- Plain facts for BinaryBack: rows that are the same, the bytes of what is printed, a text's bytes. -/
import Derived.Test.YthkpocgbinmeiaaDoorUBack2
import Derived.Test.YthkpocgbinmeiaaDoorGTPrint
import Derived.Test.YthkpocgbinmeiaaDoorGIs
import Derived.Test.YthkpocgbinmeiaaDoorP6
import Derived.Lib.ItoaMem
namespace Go.Proofs.YthkpocgbinmeiaaDoor.U
set_option linter.unusedVariables false
set_option linter.unusedSimpArgs false
open Go Go.RowKit Go.Proofs.YthkpocgbinmeiaaDoor.P Go.Proofs.YthkpocgbinmeiaaDoorW.PrintWords Go.Proofs.YthkpocgbinmeiaaDoorW.PrintLast Go.Proofs.YthkpocgbinmeiaaDoorW.PrintMore

theorem alive04 : recantlaw04_alive.f = some true := by decide +kernel
theorem esame_loop (a : List S34) (hl : a.length ≤ 1000) (d : Nat) : ∀ i : Nat, i + d = a.length → Ev (fun k => recantref02_Same.l0 k a a (a.length : Int) (i : Int)) true := by
  induction d with
  | zero =>
    intro i hi
    refine ⟨1, fun k hk => ?_⟩
    obtain ⟨k, rfl⟩ : ∃ m, k = m + 1 := ⟨k - 1, by omega⟩
    simp only [recantref02_Same.l0]
    rw [if_neg (by omega)]
  | succ d ih =>
    intro i hi
    obtain ⟨K, e⟩ := ih (i + 1) (by omega)
    refine ⟨K + 1, fun k hk => ?_⟩
    obtain ⟨k, rfl⟩ : ∃ m, k = m + 1 := ⟨k - 1, by omega⟩
    have e := e k (by omega)
    dsimp only at e
    simp only [recantref02_Same.l0]
    rw [if_pos (by omega), if_pos (by omega), if_pos (by omega), if_pos (by omega), if_neg (by simp), w64 (by omega) (by omega), show ((i : Int) + 1) = ((i + 1 : Nat) : Int) by omega]
    exact e
theorem esame (a : List S34) (hl : a.length ≤ 1000) : ∃ K, recantref02_Same.f K a a = some true := by
  obtain ⟨K, e⟩ := esame_loop a hl a.length 0 (by omega)
  refine ⟨K, ?_⟩
  unfold recantref02_Same.f
  rw [if_pos rfl]
  exact e K (Nat.le_refl _)
theorem bsame_loop (a : List Int) (hl : a.length ≤ 1000000) (d : Nat) : ∀ i : Nat, i + d = a.length → Ev (fun k => recantref03_Same.l0 k a a (a.length : Int) (i : Int)) true := by
  induction d with
  | zero =>
    intro i hi
    refine ⟨1, fun k hk => ?_⟩
    obtain ⟨k, rfl⟩ : ∃ m, k = m + 1 := ⟨k - 1, by omega⟩
    simp only [recantref03_Same.l0]
    rw [if_neg (by omega)]
  | succ d ih =>
    intro i hi
    obtain ⟨K, e⟩ := ih (i + 1) (by omega)
    refine ⟨K + 1, fun k hk => ?_⟩
    obtain ⟨k, rfl⟩ : ∃ m, k = m + 1 := ⟨k - 1, by omega⟩
    have e := e k (by omega)
    dsimp only at e
    simp only [recantref03_Same.l0]
    rw [if_pos (by omega), if_pos (by omega), if_pos (by omega), if_pos (by omega), if_pos trivial, w64 (by omega) (by omega), show ((i : Int) + 1) = ((i + 1 : Nat) : Int) by omega]
    exact e
theorem bsame (a : List Int) (hl : a.length ≤ 1000000) : ∃ K, recantref03_Same.f K a a = some true := by
  obtain ⟨K, e⟩ := bsame_loop a hl a.length 0 (by omega)
  refine ⟨K, ?_⟩
  unfold recantref03_Same.f
  rw [if_pos rfl]
  exact e K (Nat.le_refl _)
theorem put_byte (m : Nat) : ∀ x ∈ putN m, 0 ≤ x ∧ x ≤ 255 := by
  induction m using Nat.strongRecOn with
  | _ m ih =>
    intro x hx
    by_cases h : m < 128
    · rw [putN_lt h] at hx
      obtain rfl := List.mem_singleton.1 hx
      omega
    · rw [putN_ge (by omega)] at hx
      rcases List.mem_cons.1 hx with rfl | hx
      · omega
      · exact ih (m / 128) (by omega) x hx
theorem body_byte {e : S34} : ∀ x ∈ bodyL e, 0 ≤ x ∧ x ≤ 255 := by
  intro x hx
  unfold bodyL at hx
  rcases List.mem_append.1 hx with hx | hx
  · rcases List.mem_append.1 hx with hx | hx
    · rcases List.mem_append.1 hx with hx | hx
      · obtain rfl := List.mem_singleton.1 hx
        omega
      · exact put_byte _ x hx
    · split at hx
      · exact put_byte _ x hx
      · exact absurd hx (by simp)
  · split at hx
    · exact put_byte _ x hx
    · exact absurd hx (by simp)
theorem printed_byte (h : List S34) : ∀ x ∈ printL [] h, 0 ≤ x ∧ x ≤ 255 := by
  induction h with
  | nil => intro x hx; exact absurd hx (by simp [printL])
  | cons e t ih =>
    intro x hx
    rw [bprint_cons] at hx
    rcases List.mem_append.1 hx with hx | hx
    · rcases List.mem_append.1 hx with hx | hx
      · exact put_byte _ x hx
      · exact body_byte x hx
    · exact ih x hx
theorem parse_f {l : List Int} (hl : l.length ≤ 1000000) (hb : ∀ x ∈ l, 0 ≤ x ∧ x ≤ 255) : binary_Parse.f l = some (tellS (parseS l)) := by
  unfold binary_Parse.f
  rw [if_pos ⟨hl, by rw [List.all_eq_true]; intro x hx; have := hb x hx; simp; omega⟩]
theorem printed_len {h : List S34} (hr : rightsB h = true) : (printL (putN h.length) h).length ≤ 10000 ∧ ∀ x ∈ printL (putN h.length) h, 0 ≤ x ∧ x ≤ 255 := by
  have h60 : h.length ≤ 60 := by
    unfold rightsB at hr
    simp only [Bool.and_eq_true, decide_eq_true_eq] at hr
    exact hr.1
  have h1 := print_len h (rights_each hr) (putN h.length)
  have h2 := put10 h.length (by omega)
  refine ⟨by omega, fun x hx => ?_⟩
  rw [bprint_acc] at hx
  rcases List.mem_append.1 hx with hx | hx
  · exact put_byte _ x hx
  · exact printed_byte h x hx
/-- What is printed is read as the same. -/
theorem back_f {h : List S34} (hr : rightsB h = true) : binary_Parse.f (printL (putN h.length) h) = some (h, 0, 0) := by
  obtain ⟨h1, h2⟩ := printed_len hr
  rw [parse_f (by omega) h2, parse_put hr]
theorem wrong_len {h : List S34} (hr : rightsB h = true) : h.length ≤ 60 := by
  unfold rightsB at hr
  simp only [Bool.and_eq_true, decide_eq_true_eq] at hr
  exact hr.1
/-- A text's bytes. -/
def bytesI (l : List UInt8) : List Int := l.map fun b => (b.toNat : Int)
def okB (b : UInt8) : Bool := !badC (b.toNat : Int)
theorem okB_dig (n : Nat) : okB (UInt8.ofNat (48 + n % 10)) = true := by
  have : n % 10 < 10 := by omega
  rcases (by omega : n % 10 = 0 ∨ n % 10 = 1 ∨ n % 10 = 2 ∨ n % 10 = 3 ∨ n % 10 = 4 ∨ n % 10 = 5 ∨ n % 10 = 6 ∨ n % 10 = 7 ∨ n % 10 = 8 ∨ n % 10 = 9) with h | h | h | h | h | h | h | h | h | h <;> rw [h] <;> decide
theorem dec_ok (u : Nat) : ∀ b ∈ Lib.decDigits u, okB b = true := by
  intro b hb
  rw [Lib.decDigits_eq] at hb
  obtain ⟨t, _, rfl⟩ := List.mem_map.1 hb
  exact okB_dig _
theorem itoa_ok (n : Int) : ∀ b ∈ Lib.itoa n, okB b = true := by
  intro b hb
  unfold Lib.itoa at hb
  split at hb
  · rcases List.mem_cons.1 hb with rfl | hb
    · decide
    · exact dec_ok _ b hb
  · exact dec_ok _ b hb
theorem wordK_ok (k : Nat) (h : k < 10) : ∀ b ∈ (wordK k).data.toList, okB b = true := by
  have : ∀ k : Fin 10, (wordK k.val).data.toList.all okB = true := by decide
  exact List.all_eq_true.1 (this ⟨k, h⟩)
theorem num_ok (n : Int) : ∀ b ∈ 32 :: Lib.itoa n, okB b = true := by
  intro b hb
  rcases List.mem_cons.1 hb with rfl | hb
  · decide
  · exact itoa_ok n b hb
theorem line_ok {e : S34} (h : rightB e = true) : ∀ b ∈ lineL e, okB b = true := by
  obtain ⟨h0, _⟩ := right_bds h
  intro b hb
  unfold lineL at hb
  rcases List.mem_append.1 hb with hb | hb
  · rcases List.mem_append.1 hb with hb | hb
    · rcases List.mem_append.1 hb with hb | hb
      · exact wordK_ok _ (by omega) b hb
      · exact num_ok _ b hb
    · split at hb
      · exact num_ok _ b hb
      · exact absurd hb (by simp)
  · rcases List.mem_append.1 hb with hb | hb
    · split at hb
      · exact num_ok _ b hb
      · exact absurd hb (by simp)
    · obtain rfl := List.mem_singleton.1 hb
      decide
theorem text_is {h : List S34} (hr : rightsB h = true) : binary_Is.f (bytesI (textL h)) = some true := by
  unfold binary_Is.f
  congr 1
  have : (bytesI (textL h)).any badC = false := by
    rw [List.any_eq_false]
    intro x hx
    unfold bytesI at hx
    obtain ⟨b, hb, rfl⟩ := List.mem_map.1 hx
    unfold textL at hb
    obtain ⟨e, he, hb⟩ := List.mem_flatMap.1 hb
    have := line_ok (rights_each hr e he) b hb
    unfold okB at this
    simpa using this
  rw [this]; rfl
end Go.Proofs.YthkpocgbinmeiaaDoor.U

/- The document's bytes, plainly: Right, Is, Print. -/
import Derived.Test.YthkpocgbinmeiaaDoorUNum
import Derived.Test.YthkpocgbinmeiaaDoorUPutO
import Derived.Test.YthkpocgbinmeiaaDoorGConcat
import Derived.Test.YthkpocgbinmeiaaDoorGRight
import Derived.Test.YthkpocgbinmeiaaDoorGIs
import Derived.Test.YthkpocgbinmeiaaDoorP4
namespace Go.Proofs.YthkpocgbinmeiaaDoor.U
set_option linter.unusedVariables false
set_option linter.unusedSimpArgs false
open Go Go.RowKit Go.Proofs.YthkpocgbinmeiaaDoor.P Go.Proofs.YthkpocgbinmeiaaDoorW.PrintWords Go.Proofs.YthkpocgbinmeiaaDoorW.PrintLast Go.Proofs.YthkpocgbinmeiaaDoorW.PrintMore

theorem inB_iff (n lo hi : Int) : inB n lo hi = true ↔ lo ≤ n ∧ n ≤ hi := by unfold inB; simp
theorem drop_consE (l : List S34) (i : Nat) (h : i < l.length) : l.drop i = rd_T34 l (i : Int) :: l.drop (i + 1) := by
  rw [List.drop_eq_getElem_cons h]
  congr 1
  unfold rd_T34; rw [Int.toNat_natCast, List.getD_eq_getElem?_getD, List.getElem?_eq_getElem h]; rfl
def bodyL (e : S34) : List Int := (([e.f0 % 256] ++ putN e.f1.toNat) ++ (if varB e.f0 then putN e.f2.toNat else [])) ++ (if valB e.f0 then putN (zigN e.f3).toNat else [])
def printL (acc : List Int) : List S34 → List Int
  | [] => acc
  | e :: t => printL ((acc ++ putN (bodyL e).length) ++ bodyL e) t
theorem put10 (n : Nat) (hn : n < 18446744073709551616) : (putN n).length ≤ 10 := by rw [putN_len]; exact septN_len10 n hn
theorem right_bd {e : S34} (h : rightB e = true) : (0 ≤ e.f0 ∧ e.f0 ≤ 9) ∧ (0 ≤ e.f1 ∧ e.f1 ≤ 9999) ∧ (0 ≤ e.f2 ∧ e.f2 ≤ 7) ∧ (-2147483648 ≤ e.f3 ∧ e.f3 ≤ 2147483647) := by
  unfold rightB at h
  simp only [Bool.and_eq_true, Bool.or_eq_true, inB_iff, beq_iff_eq] at h
  obtain ⟨h0, h1, h2, h3⟩ := h
  exact ⟨h0, h1, by rcases h2 with h | h <;> omega, by rcases h3 with h | h <;> omega⟩
theorem zig_bd (m : Int) (h : -2147483648 ≤ m) (h2 : m ≤ 2147483647) : 0 ≤ zigN m ∧ zigN m < 18446744073709551616 := by unfold zigN; split <;> omega
theorem put_i (n : Int) (h : 0 ≤ n) (h2 : n < 18446744073709551616) : varint_Put.f n = some (putN n.toNat) := by
  have := put_f n.toNat (by omega)
  rwa [Int.toNat_of_nonneg h] at this
theorem body_len {e : S34} (h : rightB e = true) : (bodyL e).length ≤ 31 := by
  obtain ⟨h0, h1, h2, h3⟩ := right_bd h
  obtain ⟨z0, z1⟩ := zig_bd e.f3 h3.1 h3.2
  have a1 := put10 e.f1.toNat (by omega)
  have a2 := put10 e.f2.toNat (by omega)
  have a3 := put10 (zigN e.f3).toNat (by omega)
  unfold bodyL
  simp only [List.length_append, List.length_cons, List.length_nil]
  have b2 : (if varB e.f0 = true then putN e.f2.toNat else []).length ≤ 10 := by
    split
    · omega
    · simp
  have b3 : (if valB e.f0 = true then putN (zigN e.f3).toNat else []).length ≤ 10 := by
    split
    · omega
    · simp
  omega
theorem cat3 (a b c : List Int) (h : a.length + b.length + c.length ≤ 140737488355328) : slices_Concat_byte_byte.f [a, b, c] = some ((a ++ b) ++ c) := by
  unfold slices_Concat_byte_byte.f
  have : ([a, b, c] : List (List Int)).flatten = (a ++ b) ++ c := by simp
  rw [this, if_pos (by simp only [List.length_append]; omega)]
theorem oprint (l : List S34) (hl : l.length ≤ 1000) (hr : ∀ e ∈ l, rightB e = true) (d : Nat) : ∀ (i : Nat) (acc : List Int), i + d = l.length → acc.length ≤ 1000 * (i + 1) → Ev (fun k => binary_Print.l0 k acc l (l.length : Int) (i : Int)) (printL acc (l.drop i), 0) := by
  induction d with
  | zero =>
    intro i acc hi ha
    refine ⟨1, fun k hk => ?_⟩
    obtain ⟨k, rfl⟩ : ∃ m, k = m + 1 := ⟨k - 1, by omega⟩
    simp only [binary_Print.l0]
    rw [if_neg (by omega), show i = l.length by omega, List.drop_length]; rfl
  | succ d ih =>
    intro i acc hi ha
    rw [drop_consE l i (by omega)]
    have hre := hr (rd_T34 l (i : Int)) (by
      have : rd_T34 l (i : Int) ∈ l.drop i := by rw [drop_consE l i (by omega)]; exact List.mem_cons_self
      exact List.mem_of_mem_drop this)
    obtain ⟨e, he⟩ : ∃ e, e = rd_T34 l (i : Int) := ⟨_, rfl⟩
    rw [← he] at hre ⊢
    obtain ⟨h0, h1, h2, h3⟩ := right_bd hre
    obtain ⟨z0, z1⟩ := zig_bd e.f3 h3.1 h3.2
    have a1 := put10 e.f1.toNat (by omega)
    have a2 := put10 e.f2.toNat (by omega)
    have a3 := put10 (zigN e.f3).toNat (by omega)
    have hbl := body_len hre
    have hpl := put10 (bodyL e).length (by omega)
    show Ev _ (printL ((acc ++ putN (bodyL e).length) ++ bodyL e) (l.drop (i + 1)), 0)
    obtain ⟨K, hK⟩ := ih (i + 1) ((acc ++ putN (bodyL e).length) ++ bodyL e) (by omega) (by simp only [List.length_append]; omega)
    refine ⟨K + 2, fun k hk => ?_⟩
    obtain ⟨k, rfl⟩ : ∃ m, k = m + 1 + 1 := ⟨k - 2, by omega⟩
    have e1 := hK k (by omega)
    dsimp only at e1
    have fin : ∀ y : List Int, y.length ≤ 21 → y ++ (if valB e.f0 then putN (zigN e.f3).toNat else []) = bodyL e → binary_Print.j1 (k + 1) acc y l (l.length : Int) (i : Int) e.f0 e.f1 e.f2 e.f3 = some (printL ((acc ++ putN (bodyL e).length) ++ bodyL e) (l.drop (i + 1)), 0) := by
      intro y hy hye
      simp only [binary_Print.j1]
      rw [val_eq, Option.bind_some]
      cases hv : valB e.f0 with
      | true =>
        rw [hv, if_pos rfl] at hye
        rw [if_pos rfl, zig_f e.f3 (by omega) (by omega), Option.bind_some, put_i _ z0 z1, Option.bind_some, if_pos (by omega), Option.bind_some, hye, wu64 (by omega) (by omega), put_f (bodyL e).length (by omega), Option.bind_some, cat3 _ _ _ (by omega), Option.bind_some, w64 (by omega) (by omega), show ((i : Int) + 1) = ((i + 1 : Nat) : Int) by omega]
        exact e1
      | false =>
        rw [hv, if_neg (by simp), List.append_nil] at hye
        rw [if_neg (by simp), hye, wu64 (by omega) (by omega), put_f (bodyL e).length (by omega), Option.bind_some, cat3 _ _ _ (by omega), Option.bind_some, w64 (by omega) (by omega), show ((i : Int) + 1) = ((i + 1 : Nat) : Int) by omega]
        exact e1
    obtain ⟨q, hq⟩ : ∃ q, q = k + 1 := ⟨_, rfl⟩
    rw [← hq] at fin
    show binary_Print.l0 (k + 1 + 1) acc l (l.length : Int) (i : Int) = _
    rw [← hq]
    simp only [binary_Print.l0]
    rw [if_pos (by omega), if_pos (by omega), if_pos (by omega), Option.bind_some, ← he, wu64 (x := e.f1) (by omega) (by omega), put_i e.f1 (by omega) (by omega), Option.bind_some, if_pos (by simp only [List.length_cons, List.length_nil]; omega), Option.bind_some, var_eq, Option.bind_some]
    cases hv : varB e.f0 with
    | true =>
      rw [if_pos rfl, wu64 (x := e.f2) (by omega) (by omega), put_i e.f2 (by omega) (by omega), Option.bind_some, if_pos (by simp only [List.length_append, List.length_cons, List.length_nil]; omega)]
      refine fin _ (by simp only [List.length_append, List.length_cons, List.length_nil]; omega) ?_
      unfold bodyL; rw [hv, if_pos rfl]
    | false =>
      rw [if_neg (by simp)]
      refine fin _ (by simp only [List.length_append, List.length_cons, List.length_nil]; omega) ?_
      unfold bodyL; rw [hv]; simp
theorem oprint_f (l : List S34) (hl : l.length ≤ 1000) (h : rightsB l = true) : Ev (fun k => binary_Print.f k l) (printL (putN l.length) l, 0) := by
  have hr : ∀ e ∈ l, rightB e = true := by
    unfold rightsB at h
    simp only [Bool.and_eq_true, Bool.not_eq_true'] at h
    intro e he
    have := List.any_eq_false.1 h.2.1 e he
    simpa using this
  have hp := put10 l.length (by omega)
  obtain ⟨K, e⟩ := oprint l hl hr l.length 0 (putN l.length) (by omega) (by omega)
  refine ⟨K, fun k hk => ?_⟩
  have e := e k hk
  rw [List.drop_zero] at e
  dsimp only at e ⊢
  unfold binary_Print.f text_Right.f
  rw [Option.bind_some, if_pos h, wu64 (by omega) (by omega), put_f l.length (by omega), Option.bind_some]
  exact e
theorem oprint_no (l : List S34) (h : rightsB l = false) (k : Nat) : binary_Print.f k l = some ([], 1) := by
  unfold binary_Print.f text_Right.f
  rw [Option.bind_some, if_neg (by rw [h]; simp)]
theorem print_len (l : List S34) (hr : ∀ e ∈ l, rightB e = true) : ∀ acc : List Int, (printL acc l).length ≤ acc.length + 41 * l.length := by
  induction l with
  | nil => intro acc; exact Nat.le_refl _
  | cons e t ih =>
    intro acc
    have h1 := ih (fun x hx => hr x (List.mem_cons_of_mem _ hx)) ((acc ++ putN (bodyL e).length) ++ bodyL e)
    have hb := body_len (hr e List.mem_cons_self)
    have hp := put10 (bodyL e).length (by omega)
    simp only [List.length_append] at h1
    show (printL ((acc ++ putN (bodyL e).length) ++ bodyL e) t).length ≤ _
    rw [List.length_cons]; omega
end Go.Proofs.YthkpocgbinmeiaaDoor.U

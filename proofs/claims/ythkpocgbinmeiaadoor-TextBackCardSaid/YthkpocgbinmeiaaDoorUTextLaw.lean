/- What the laws of layer 2 share, plainly. -/
import Derived.Test.YthkpocgbinmeiaaDoorURows
import Derived.Test.YthkpocgbinmeiaaDoorP4
namespace Go.Proofs.YthkpocgbinmeiaaDoor.U
set_option linter.unusedVariables false
set_option linter.unusedSimpArgs false
open Go Go.RowKit Go.Proofs.YthkpocgbinmeiaaDoor.P Go.Proofs.YthkpocgbinmeiaaDoorW.PrintWords Go.Proofs.YthkpocgbinmeiaaDoorW.PrintLast Go.Proofs.YthkpocgbinmeiaaDoorW.PrintMore

theorem same_self (l : List S34) (hl : l.length ≤ 1000000) (d : Nat) : ∀ i : Nat, i + d = l.length → Ev (fun k => recantref02_Same.l0 k l l (l.length : Int) (i : Int)) true := by
  induction d with
  | zero =>
    intro i hi
    refine ⟨1, fun k hk => ?_⟩
    obtain ⟨k, rfl⟩ : ∃ m, k = m + 1 := ⟨k - 1, by omega⟩
    simp only [recantref02_Same.l0]
    rw [if_neg (by omega)]
  | succ d ih =>
    intro i hi
    obtain ⟨K, e⟩ := ih (i + 1) (by omega)
    refine ⟨K + 1, fun k hk => ?_⟩
    obtain ⟨k, rfl⟩ : ∃ m, k = m + 1 := ⟨k - 1, by omega⟩
    simp only [recantref02_Same.l0]
    rw [if_pos (by omega), if_pos (by omega), if_pos (by omega), if_pos (by omega), if_neg (by simp), w64 (by omega) (by omega), show ((i : Int) + 1) = ((i + 1 : Nat) : Int) by omega]
    exact e k (by omega)
theorem same_self_f (l : List S34) (hl : l.length ≤ 1000000) : Ev (fun k => recantref02_Same.f k l l) true := by
  obtain ⟨K, e⟩ := same_self l hl l.length 0 (by omega)
  refine ⟨K, fun k hk => ?_⟩
  unfold recantref02_Same.f
  dsimp only
  rw [if_pos rfl]
  exact e k hk
theorem lines_len (L : List ByteArray) : ∀ (fr : Int) (evs : List S34), evs.length ≤ 60 → (linesT L fr evs).1.length ≤ 60 := by
  induction L with
  | nil => intro fr evs h; exact h
  | cons s t ih =>
    intro fr evs h
    rw [linesT]
    by_cases h0 : (wsS s).length = 0
    · rw [if_pos h0]; exact ih _ _ h
    · rw [if_neg h0]
      by_cases hb : (tev (wsS s) (shift fr (atsS s)) (fr + s.size) evs).2.2 ≠ 0
      · rw [if_pos hb]; simp
      · rw [if_neg hb]
        refine ih _ _ ?_
        have := tev_bad5 (e := (tev (wsS s) (shift fr (atsS s)) (fr + s.size) evs).1) (a := (tev (wsS s) (shift fr (atsS s)) (fr + s.size) evs).2.1) (b := (tev (wsS s) (shift fr (atsS s)) (fr + s.size) evs).2.2) rfl (by omega)
        simp
        omega
theorem parse_len (s : ByteArray) (r : List S34 × Int × Int) (h : text_Parse.f s = some r) : r.1.length ≤ 60 := by
  unfold text_Parse.f at h
  have h := Option.some.inj h
  rw [← h]
  split
  · simp
  · exact lines_len _ _ _ (by simp)
theorem parse_at (s : ByteArray) : ∃ r, text_Parse.f s = some r := ⟨_, rfl⟩
def aliveS : ByteArray := ⟨#[119, 114, 105, 116, 101, 32, 51, 32, 49, 32, 45, 53, 32, 35, 32, 99, 10, 10]⟩
theorem alive_rows : rowsS aliveS = [⟨#[119, 114, 105, 116, 101, 32, 51, 32, 49, 32, 45, 53, 32, 35, 32, 99]⟩, ⟨#[]⟩, ⟨#[]⟩] := by
  rw [rows_two aliveS [119, 114, 105, 116, 101, 32, 51, 32, 49, 32, 45, 53, 32, 35, 32, 99] [10] rfl (by decide),
    rows_two ⟨[(10 : UInt8)].toArray⟩ [] [] rfl (by decide), rows_one ⟨([] : List UInt8).toArray⟩ (by simp)]
theorem alive_parse : text_Parse.f aliveS = some ([⟨4, 3, 1, -5⟩], 0, 0) := by
  unfold text_Parse.f
  rw [if_neg (by decide), alive_rows]
  kernel_rfl
theorem alive02 : recantlaw02_alive.f = some true := by
  unfold recantlaw02_alive.f
  rw [show (⟨#[119, 114, 105, 116, 101, 32, 51, 32, 49, 32, 45, 53, 32, 35, 32, 99, 10, 10]⟩ : ByteArray) = aliveS from rfl, alive_parse]
  decide +kernel
end Go.Proofs.YthkpocgbinmeiaaDoor.U

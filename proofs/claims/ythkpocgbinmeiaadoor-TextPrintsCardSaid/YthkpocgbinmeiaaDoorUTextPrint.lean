/- The document's text of events is ours; the same events, by either. -/
import Derived.Test.YthkpocgbinmeiaaDoorGTPrint
import Derived.Test.YthkpocgbinmeiaaDoorUIntRefB
import Derived.Test.YthkpocgbinmeiaaDoorURef2
import Derived.Test.YthkpocgbinmeiaaDoorURef2R
import Derived.Test.YthkpocgbinmeiaaDoorP8
import Derived.Test.YthkpocgbinmeiaaDoorP6
namespace Go.Proofs.YthkpocgbinmeiaaDoor.U
set_option linter.unusedVariables false
set_option linter.unusedSimpArgs false
open Go Go.RowKit Go.Proofs.YthkpocgbinmeiaaDoor.P Go.Proofs.YthkpocgbinmeiaaDoorW.PrintWords Go.Proofs.YthkpocgbinmeiaaDoorW.PrintLast Go.Proofs.YthkpocgbinmeiaaDoorW.PrintMore

theorem pword (i : Nat) (h : i < 10) : recantref02_Word.f (i : Int) = some (wordK i) := by
  have : ∀ j : Fin 10, recantref02_Word.f ((j.val : Nat) : Int) = some (wordK j.val) := by decide +kernel
  exact this ⟨i, h⟩
theorem ext_listP {a b : ByteArray} (h : a.data.toList = b.data.toList) : a = b := by
  cases a; cases b
  simp only [ByteArray.mk.injEq]
  exact Array.toList_inj.1 h
theorem size_of (l : List UInt8) : (⟨l.toArray⟩ : ByteArray).size = l.length := by rw [Lib.size_eq]
theorem rprint_j1 (l : List S34) (e : S34) (i : Nat) (acc : ByteArray) (R : ByteArray) (ha : acc.size ≤ 1000000) (hi : (i : Int) < 1000000) (hr : rightB e = true)
    (h : Ev (fun k => recantref02_Print.l0 k (acc ++ ⟨((if valB e.f0 = true then 32 :: Lib.itoa e.f3 else []) ++ [10]).toArray⟩) l (l.length : Int) ((i + 1 : Nat) : Int)) R) :
    Ev (fun k => recantref02_Print.j1 k acc l (l.length : Int) (i : Int) e.f0 e.f1 e.f2 e.f3) R := by
  obtain ⟨K, e2⟩ := h
  obtain ⟨hb0, hb1, hb2, hb3⟩ := right_bds hr
  cases hv : valB e.f0 with
  | true =>
    rw [hv, if_pos rfl] at e2
    obtain ⟨K3, e3⟩ := rtext_ev e.f3 hb3.1 hb3.2
    have hl3 := itoa_size e.f3 hb3.1 hb3.2
    refine ⟨K + K3 + 1, fun k hk => ?_⟩
    obtain ⟨k, rfl⟩ : ∃ m, k = m + 1 := ⟨k - 1, by omega⟩
    have e2 := e2 k (by omega)
    have e3 := e3 k (by omega)
    dsimp only at e2 e3
    simp only [recantref02_Print.j1]
    have hz1 : (acc ++ (⟨#[32]⟩ : ByteArray)).size = acc.size + 1 := by rw [ByteArray.size_append]; rfl
    have hz2 : ((acc ++ (⟨#[32]⟩ : ByteArray)) ++ ⟨(Lib.itoa e.f3).toArray⟩).size = acc.size + 1 + (Lib.itoa e.f3).length := by rw [ByteArray.size_append, hz1, size_of (Lib.itoa e.f3)]
    rw [pval, hv, Option.bind_some, if_pos rfl, if_pos (by omega), e3, Option.bind_some, if_pos (by rw [hz1, size_of (Lib.itoa e.f3)]; omega), if_pos (by rw [hz2]; omega), w64 (by omega) (by omega), show ((i : Int) + 1) = ((i + 1 : Nat) : Int) by omega]
    have hx : ((acc ++ (⟨#[32]⟩ : ByteArray)) ++ ⟨(Lib.itoa e.f3).toArray⟩) ++ (⟨#[10]⟩ : ByteArray) = acc ++ ⟨((32 :: Lib.itoa e.f3) ++ [10]).toArray⟩ := by
      apply ext_listP
      simp
    rw [hx]
    exact e2
  | false =>
    rw [hv, if_neg Bool.false_ne_true] at e2
    refine ⟨K + 1, fun k hk => ?_⟩
    obtain ⟨k, rfl⟩ : ∃ m, k = m + 1 := ⟨k - 1, by omega⟩
    have e2 := e2 k (by omega)
    dsimp only at e2
    simp only [recantref02_Print.j1]
    rw [pval, hv, Option.bind_some, if_neg Bool.false_ne_true, if_pos (by omega), w64 (by omega) (by omega), show ((i : Int) + 1) = ((i + 1 : Nat) : Int) by omega]
    exact e2
theorem drop_consT (l : List S34) (i : Nat) (h : i < l.length) : l.drop i = rd_T34 l (i : Int) :: l.drop (i + 1) := by
  rw [List.drop_eq_getElem_cons h]
  congr 1
  unfold rd_T34; rw [Int.toNat_natCast, List.getD_eq_getElem?_getD, List.getElem?_eq_getElem h]; rfl
theorem rprintT (l : List S34) (hl : l.length ≤ 1000) (hr : ∀ e ∈ l, rightB e = true) (d : Nat) : ∀ (i : Nat) (acc : ByteArray), i + d = l.length → acc.size ≤ 100 * i → Ev (fun k => recantref02_Print.l0 k acc l (l.length : Int) (i : Int)) (acc ++ ⟨(textL (l.drop i)).toArray⟩) := by
  induction d with
  | zero =>
    intro i acc hi ha
    refine ⟨1, fun k hk => ?_⟩
    obtain ⟨k, rfl⟩ : ∃ m, k = m + 1 := ⟨k - 1, by omega⟩
    simp only [recantref02_Print.l0]
    rw [if_neg (by omega), List.drop_of_length_le (by omega)]
    congr 1
    apply ext_listP
    simp [textL]
  | succ d ih =>
    intro i acc hi ha
    have hlt : i < l.length := by omega
    obtain ⟨e, he⟩ : ∃ e, e = rd_T34 l (i : Int) := ⟨_, rfl⟩
    have hdr := drop_consT l i hlt
    rw [← he] at hdr
    have hre : rightB e = true := hr e (by have : e ∈ l.drop i := by rw [hdr]; exact List.mem_cons_self ..
                                           exact List.mem_of_mem_drop this)
    obtain ⟨hb0, hb1, hb2, hb3⟩ := right_bds hre
    obtain ⟨kk, hkk⟩ := Int.eq_ofNat_of_zero_le hb0.1
    have hk10 : kk < 10 := by omega
    have hl1 := itoa_size e.f1 (by omega) (by omega)
    have hl2 := itoa_size e.f2 (by omega) (by omega)
    have hwz := wordK_size kk hk10
    have hline := line_len hre
    have hrest := ih (i + 1) (acc ++ ⟨(lineL e).toArray⟩) (by omega) (by rw [ByteArray.size_append, size_of (lineL e)]; omega)
    have hfin : (acc ++ ⟨(lineL e).toArray⟩) ++ ⟨(textL (l.drop (i + 1))).toArray⟩ = acc ++ ⟨(textL (l.drop i)).toArray⟩ := by
      rw [hdr]
      apply ext_listP
      simp [textL]
    rw [hfin] at hrest
    obtain ⟨K1, e1⟩ := rtext_ev e.f1 (by omega) (by omega)
    have hz1 : (acc ++ wordK kk).size = acc.size + (wordK kk).size := by rw [ByteArray.size_append]
    have hz2 : ((acc ++ wordK kk) ++ (⟨#[32]⟩ : ByteArray)).size = acc.size + (wordK kk).size + 1 := by rw [ByteArray.size_append, hz1]; rfl
    have hz3 : (((acc ++ wordK kk) ++ (⟨#[32]⟩ : ByteArray)) ++ ⟨(Lib.itoa e.f1).toArray⟩).size = acc.size + (wordK kk).size + 1 + (Lib.itoa e.f1).length := by rw [ByteArray.size_append, hz2, size_of (Lib.itoa e.f1)]
    have hwd : recantref02_Word.f e.f0 = some (wordK kk) := by rw [hkk]; exact pword kk hk10
    cases hv : varB e.f0 with
    | true =>
      obtain ⟨K2, e2⟩ := rtext_ev e.f2 (by omega) (by omega)
      have hz4 : ((((acc ++ wordK kk) ++ (⟨#[32]⟩ : ByteArray)) ++ ⟨(Lib.itoa e.f1).toArray⟩) ++ (⟨#[32]⟩ : ByteArray)).size = acc.size + (wordK kk).size + 1 + (Lib.itoa e.f1).length + 1 := by rw [ByteArray.size_append, hz3]; rfl
      have hz5 : (((((acc ++ wordK kk) ++ (⟨#[32]⟩ : ByteArray)) ++ ⟨(Lib.itoa e.f1).toArray⟩) ++ (⟨#[32]⟩ : ByteArray)) ++ ⟨(Lib.itoa e.f2).toArray⟩).size = acc.size + (wordK kk).size + 1 + (Lib.itoa e.f1).length + 1 + (Lib.itoa e.f2).length := by rw [ByteArray.size_append, hz4, size_of (Lib.itoa e.f2)]
      have hx : (((((acc ++ wordK kk) ++ (⟨#[32]⟩ : ByteArray)) ++ ⟨(Lib.itoa e.f1).toArray⟩) ++ (⟨#[32]⟩ : ByteArray)) ++ ⟨(Lib.itoa e.f2).toArray⟩) ++ ⟨((if valB e.f0 = true then 32 :: Lib.itoa e.f3 else []) ++ [10]).toArray⟩ = acc ++ ⟨(lineL e).toArray⟩ := by
        apply ext_listP
        unfold lineL
        rw [hv, if_pos rfl, hkk]
        simp
      obtain ⟨K3, e3⟩ := rprint_j1 l e i _ _ (by rw [hz5]; omega) (by omega) hre (by rw [hx]; exact hrest)
      refine ⟨K1 + K2 + K3 + 1, fun k hk => ?_⟩
      obtain ⟨k, rfl⟩ : ∃ m, k = m + 1 := ⟨k - 1, by omega⟩
      have e1 := e1 k (by omega)
      have e2 := e2 k (by omega)
      have e3 := e3 k (by omega)
      dsimp only at e1 e2 e3
      simp only [recantref02_Print.l0]
      rw [if_pos (by omega), if_pos (by omega), if_pos (by omega), ← he, hwd, Option.bind_some, if_pos (by omega), if_pos (by rw [hz1]; omega), e1, Option.bind_some, if_pos (by rw [hz2, size_of (Lib.itoa e.f1)]; omega), pvar, hv, Option.bind_some, if_pos rfl, if_pos (by rw [hz3]; omega), e2, Option.bind_some, if_pos (by rw [hz4, size_of (Lib.itoa e.f2)]; omega)]
      exact e3
    | false =>
      have hx : (((acc ++ wordK kk) ++ (⟨#[32]⟩ : ByteArray)) ++ ⟨(Lib.itoa e.f1).toArray⟩) ++ ⟨((if valB e.f0 = true then 32 :: Lib.itoa e.f3 else []) ++ [10]).toArray⟩ = acc ++ ⟨(lineL e).toArray⟩ := by
        apply ext_listP
        unfold lineL
        rw [hv, if_neg Bool.false_ne_true, hkk]
        simp
      obtain ⟨K3, e3⟩ := rprint_j1 l e i _ _ (by rw [hz3]; omega) (by omega) hre (by rw [hx]; exact hrest)
      refine ⟨K1 + K3 + 1, fun k hk => ?_⟩
      obtain ⟨k, rfl⟩ : ∃ m, k = m + 1 := ⟨k - 1, by omega⟩
      have e1 := e1 k (by omega)
      have e3 := e3 k (by omega)
      dsimp only at e1 e3
      simp only [recantref02_Print.l0]
      rw [if_pos (by omega), if_pos (by omega), if_pos (by omega), ← he, hwd, Option.bind_some, if_pos (by omega), if_pos (by rw [hz1]; omega), e1, Option.bind_some, if_pos (by rw [hz2, size_of (Lib.itoa e.f1)]; omega), pvar, hv, Option.bind_some, if_neg Bool.false_ne_true]
      exact e3
theorem rprintT_f (l : List S34) (hl : l.length ≤ 1000) (h : rightsB l = true) : Ev (fun k => recantref02_Print.f k l) ⟨(textL l).toArray⟩ := by
  have := rprintT l hl (rights_each h) l.length 0 ⟨#[]⟩ (by omega) (show (0 : Nat) ≤ 100 * 0 from Nat.le_refl _)
  rw [List.drop_zero] at this
  have hx : (⟨#[]⟩ : ByteArray) ++ ⟨(textL l).toArray⟩ = ⟨(textL l).toArray⟩ := by
    apply ext_listP
    rw [ByteArray.data_append, Array.toList_append]
    rfl
  rw [hx] at this
  exact this
/-- Both say alike which rows are the same. -/
theorem like_same_l (a b : List S34) : ∀ (k : Nat) (n i : Int), api_Event.l0 k a b n i = recantref02_Same.l0 k a b n i := by
  intro k
  induction k with
  | zero => intro n i; rfl
  | succ k ih =>
    intro n i
    simp only [api_Event.l0, recantref02_Same.l0, ih]
theorem like_same (a b : List S34) (k : Nat) : text_Like.f k a b = recantref02_Same.f k a b := by
  unfold text_Like.f api_Event.f recantref02_Same.f
  rw [like_same_l]
  cases h : (if (a.length : Int) = (b.length : Int) then recantref02_Same.l0 k a b (a.length : Int) 0 else some false) with
  | none => rfl
  | some v => rfl
/-- Sooner or later either says something. -/
theorem same_ends (a b : List S34) (hl : a.length ≤ 1000000) (hab : a.length = b.length) (d : Nat) : ∀ i : Nat, i + d = a.length → ∃ r, Ev (fun k => recantref02_Same.l0 k a b (a.length : Int) (i : Int)) r := by
  induction d with
  | zero =>
    intro i hi
    refine ⟨true, 1, fun k hk => ?_⟩
    obtain ⟨k, rfl⟩ : ∃ m, k = m + 1 := ⟨k - 1, by omega⟩
    simp only [recantref02_Same.l0]
    rw [if_neg (by omega)]
  | succ d ih =>
    intro i hi
    obtain ⟨r, K, e⟩ := ih (i + 1) (by omega)
    obtain ⟨q, hq⟩ : ∃ q, q = (!(((rd_T34 a (i : Int)).f0) == ((rd_T34 b (i : Int)).f0)) || (!(((rd_T34 a (i : Int)).f1) == ((rd_T34 b (i : Int)).f1)) || (!(((rd_T34 a (i : Int)).f2) == ((rd_T34 b (i : Int)).f2)) || (!(((rd_T34 a (i : Int)).f3) == ((rd_T34 b (i : Int)).f3)))))) := ⟨_, rfl⟩
    cases q with
    | true =>
      refine ⟨false, 1, fun k hk => ?_⟩
      obtain ⟨k, rfl⟩ : ∃ m, k = m + 1 := ⟨k - 1, by omega⟩
      simp only [recantref02_Same.l0]
      rw [if_pos (by omega), if_pos (by omega), if_pos (by omega), if_pos (by omega), if_pos hq.symm]
    | false =>
      refine ⟨r, K + 1, fun k hk => ?_⟩
      obtain ⟨k, rfl⟩ : ∃ m, k = m + 1 := ⟨k - 1, by omega⟩
      simp only [recantref02_Same.l0]
      rw [if_pos (by omega), if_pos (by omega), if_pos (by omega), if_pos (by omega), if_neg (by rw [← hq]; exact Bool.false_ne_true), w64 (by omega) (by omega), show ((i : Int) + 1) = ((i + 1 : Nat) : Int) by omega]
      exact e k (by omega)
theorem same_ends_f (a b : List S34) (hl : a.length ≤ 1000000) : ∃ r, Ev (fun k => recantref02_Same.f k a b) r := by
  by_cases hab : a.length = b.length
  · obtain ⟨r, K, e⟩ := same_ends a b hl hab a.length 0 (by omega)
    refine ⟨r, K, fun k hk => ?_⟩
    dsimp only
    unfold recantref02_Same.f
    rw [if_pos (by omega)]
    exact e k hk
  · refine ⟨false, 0, fun k _ => ?_⟩
    dsimp only
    unfold recantref02_Same.f
    rw [if_neg (by omega)]
end Go.Proofs.YthkpocgbinmeiaaDoor.U

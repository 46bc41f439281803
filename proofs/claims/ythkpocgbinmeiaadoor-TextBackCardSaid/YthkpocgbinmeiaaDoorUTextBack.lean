/- Events' text is read as the events. -/
import Derived.Test.YthkpocgbinmeiaaDoorUDigits
import Derived.Test.YthkpocgbinmeiaaDoorURows
import Derived.Test.YthkpocgbinmeiaaDoorUNames
import Derived.Test.YthkpocgbinmeiaaDoorUJoin
import Derived.Test.YthkpocgbinmeiaaDoorGTPrint
namespace Go.Proofs.YthkpocgbinmeiaaDoor.U
set_option linter.unusedVariables false
set_option linter.unusedSimpArgs false
open Go Go.RowKit Go.Proofs.YthkpocgbinmeiaaDoor.P Go.Proofs.YthkpocgbinmeiaaDoorW.PrintWords Go.Proofs.YthkpocgbinmeiaaDoorW.PrintLast Go.Proofs.YthkpocgbinmeiaaDoorW.PrintMore

/-- Words, with a blank between. -/
def joinW : List (List UInt8) → List UInt8
  | [] => []
  | w :: t => if t = [] then w else w ++ 32 :: joinW t
theorem wi_word (w r : List UInt8) (hw : ∀ c ∈ w, blank c = false) : ∀ f pos, wi f pos (w ++ r) = wi f (pos + w.length) r := by
  induction w with
  | nil => intro f pos; rfl
  | cons c t ih =>
    intro f pos
    rw [List.cons_append]
    show (if blank c = true then _ else wi f (pos + 1) (t ++ r)) = _
    rw [if_neg (by rw [hw c (List.mem_cons_self ..)]; exact Bool.false_ne_true), ih (fun x hx => hw x (List.mem_cons_of_mem _ hx))]
    congr 1
    simp
    omega
theorem wi_join (X : List UInt8) (ws : List (List UInt8)) : ∀ p : List UInt8, X = p ++ joinW ws → (∀ w ∈ ws, w ≠ [] ∧ ∀ c ∈ w, blank c = false) →
    (wi p.length p.length (joinW ws)).map (fun q => (X.drop q.1).take (q.2 - q.1)) = ws := by
  induction ws with
  | nil => intro p _ _; simp [joinW, wi]
  | cons w t ih =>
    intro p hX hw
    obtain ⟨hne, hb⟩ := hw w (List.mem_cons_self ..)
    have hlen : 0 < w.length := List.length_pos_iff.2 hne
    unfold joinW at hX ⊢
    by_cases ht : t = []
    · subst ht
      rw [if_pos rfl] at hX ⊢
      have := wi_word w [] hb p.length p.length
      rw [List.append_nil] at this
      rw [this]
      unfold wi
      rw [if_pos (by omega)]
      subst hX
      simp
    · rw [if_neg ht] at hX ⊢
      rw [wi_word w _ hb]
      have hs : wi p.length (p.length + w.length) (32 :: joinW t) = (if p.length < p.length + w.length then [(p.length, p.length + w.length)] else []) ++ wi (p.length + w.length + 1) (p.length + w.length + 1) (joinW t) := rfl
      rw [hs, if_pos (by omega), List.map_append]
      have h2 := ih (p ++ (w ++ [32])) (by rw [hX]; simp) (fun x hx => hw x (List.mem_cons_of_mem _ hx))
      have hpl : (p ++ (w ++ [32])).length = p.length + w.length + 1 := by simp; omega
      rw [hpl] at h2
      rw [h2]
      subst hX
      simp
theorem upto_all : ∀ l : List UInt8, (∀ c ∈ l, c ≠ 35) → upto l = l
  | [], _ => rfl
  | c :: t, h => by
    have ih := upto_all t (fun x hx => h x (List.mem_cons_of_mem _ hx))
    have hc := h c (List.mem_cons_self ..)
    unfold upto at ih ⊢
    rw [List.takeWhile_cons, if_pos (by simpa using hc), ih]
theorem wsS_join (x : ByteArray) (ws : List (List UInt8)) (hx : x.data.toList = joinW ws) (hw : ∀ w ∈ ws, w ≠ [] ∧ ∀ c ∈ w, blank c = false) (h35 : ∀ c ∈ joinW ws, c ≠ 35) : wsS x = ws.map (fun w => ⟨w.toArray⟩) := by
  rw [← words_same]
  have hu : upto x.data.toList = joinW ws := by rw [hx]; exact upto_all _ h35
  have h := wi_join (joinW ws) ws [] rfl hw
  rw [List.length_nil] at h
  unfold wordsOf
  rw [hu]
  have e : (wi 0 0 (joinW ws)).map (fun p => x.extract p.1 p.2) = ((wi 0 0 (joinW ws)).map (fun q => ((joinW ws).drop q.1).take (q.2 - q.1))).map (fun w => (⟨w.toArray⟩ : ByteArray)) := by
    rw [List.map_map]
    apply List.map_congr_left
    intro p hp
    apply ext_list
    rw [Lib.extract_data, hx]
    simp
  rw [e, h]
theorem blank_of (c : UInt8) (h : c = 45 ∨ digB c = true) : blank c = false ∧ c ≠ 35 ∧ c ≠ 10 := by
  have h45 : (45 : UInt8).toNat = 45 := rfl
  rcases h with rfl | h
  · decide
  · rw [digB_iff] at h
    refine ⟨?_, ?_, ?_⟩
    · unfold blank
      simp only [Bool.or_eq_false_iff, beq_eq_false_iff_ne]
      constructor
      · rintro rfl; have : (32 : UInt8).toNat = 32 := rfl; omega
      · rintro rfl; have : (9 : UInt8).toNat = 9 := rfl; omega
    · rintro rfl; have : (35 : UInt8).toNat = 35 := rfl; omega
    · rintro rfl; have : (10 : UInt8).toNat = 10 := rfl; omega
theorem word_chars (k : Nat) (h : k < 10) : (wordK k).data.toList ≠ [] ∧ ∀ c ∈ (wordK k).data.toList, blank c = false ∧ c ≠ 35 ∧ c ≠ 10 := by
  have : ∀ j : Fin 10, (wordK j.val).data.toList ≠ [] ∧ ∀ c ∈ (wordK j.val).data.toList, blank c = false ∧ c ≠ 35 ∧ c ≠ 10 := by decide +kernel
  exact this ⟨k, h⟩
theorem kind_word (k : Nat) (h : k < 10) : kindW (wordK k) = (k : Int) := by
  have : ∀ j : Fin 10, kindW (wordK j.val) = (j.val : Int) := by decide +kernel
  exact this ⟨k, h⟩
/-- An event's words. -/
def wordsE (e : S34) : List (List UInt8) := [(wordK e.f0.toNat).data.toList, Lib.itoa e.f1] ++ ((if varB e.f0 = true then [Lib.itoa e.f2] else []) ++ (if valB e.f0 = true then [Lib.itoa e.f3] else []))
theorem line_join (e : S34) : lineL e = joinW (wordsE e) ++ [10] := by
  unfold lineL wordsE
  cases varB e.f0 <;> cases valB e.f0 <;> simp [joinW]
theorem wordsE_ok {e : S34} (h : rightB e = true) : ∀ w ∈ wordsE e, w ≠ [] ∧ ∀ c ∈ w, blank c = false ∧ c ≠ 35 ∧ c ≠ 10 := by
  obtain ⟨hb0, _, _, _⟩ := right_bds h
  obtain ⟨k, hk⟩ := Int.eq_ofNat_of_zero_le hb0.1
  have it : ∀ n : Int, Lib.itoa n ≠ [] ∧ ∀ c ∈ Lib.itoa n, blank c = false ∧ c ≠ 35 ∧ c ≠ 10 := fun n => ⟨itoa_ne n, fun c hc => blank_of c (itoa_chars n c hc)⟩
  intro w hw
  unfold wordsE at hw
  simp only [List.mem_append, List.mem_cons, List.not_mem_nil, or_false] at hw
  rcases hw with (rfl | rfl) | hw | hw
  · rw [hk]; exact word_chars k (by omega)
  · exact it _
  · split at hw
    · simp at hw; subst hw; exact it _
    · simp at hw
  · split at hw
    · simp at hw; subst hw; exact it _
    · simp at hw
theorem join_mem (ws : List (List UInt8)) : ∀ c ∈ joinW ws, c = 32 ∨ ∃ w ∈ ws, c ∈ w := by
  induction ws with
  | nil => intro c hc; simp [joinW] at hc
  | cons w t ih =>
    intro c hc
    unfold joinW at hc
    split at hc
    · exact .inr ⟨w, List.mem_cons_self .., hc⟩
    · rcases List.mem_append.1 hc with h | h
      · exact .inr ⟨w, List.mem_cons_self .., h⟩
      · rcases List.mem_cons.1 h with h | h
        · exact .inl h
        · rcases ih c h with h | ⟨v, hv, hcv⟩
          · exact .inl h
          · exact .inr ⟨v, List.mem_cons_of_mem _ hv, hcv⟩
theorem wsS_line {e : S34} (h : rightB e = true) (x : ByteArray) (hx : x.data.toList = joinW (wordsE e)) : wsS x = (wordsE e).map (fun w => ⟨w.toArray⟩) := by
  have hok := wordsE_ok h
  refine wsS_join x _ hx (fun w hw => ⟨(hok w hw).1, fun c hc => ((hok w hw).2 c hc).1⟩) ?_
  intro c hc
  rcases join_mem _ c hc with rfl | ⟨w, hw, hcw⟩
  · decide
  · exact ((hok w hw).2 c hcw).2.1
theorem tnum_word (ws : List ByteArray) (ats : List Int) (en : Int) (i : Nat) (n lo hi : Int) (hi2 : i < ws.length) (hw : ws[i]? = some ⟨(Lib.itoa n).toArray⟩) (h0 : -2147483648 ≤ n) (h1 : n ≤ 2147483647) (h2 : lo ≤ n) (h3 : n ≤ hi) : (tnum ws ats en (i : Int) lo hi).2.2 = 0 ∧ (tnum ws ats en (i : Int) lo hi).1 = n := by
  have hr : rdOf ByteArray.empty ws (i : Int) = ⟨(Lib.itoa n).toArray⟩ := by
    unfold rdOf
    rw [Int.toNat_natCast, List.getD_eq_getElem?_getD, hw]; rfl
  have hv := int_itoa n h0 h1
  unfold tnum
  rw [if_neg (by omega), hr, hv, if_neg (by
    intro h
    have := h.2
    unfold inB at this
    simp at this
    omega)]
  exact ⟨rfl, rfl⟩
theorem good_line {e : S34} (h : rightB e = true) (x : ByteArray) (hx : x.data.toList = joinW (wordsE e)) (ats : List Int) (en : Int) (evs : List S34) (h60 : evs.length ≠ 60) (h7 : seventhB evs e.f1 = false) : goodE (wsS x) ats en evs e := by
  obtain ⟨hb0, hb1, hb2, hb3⟩ := right_bds h
  obtain ⟨k, hk⟩ := Int.eq_ofNat_of_zero_le hb0.1
  have hws := wsS_line h x hx
  have hz : (varB e.f0 = false → e.f2 = 0) ∧ (valB e.f0 = false → e.f3 = 0) := by
    unfold rightB at h
    simp only [Bool.and_eq_true, Bool.or_eq_true, beq_iff_eq] at h
    obtain ⟨_, _, h2, h3⟩ := h
    exact ⟨fun hf => h2.elim (fun h => by rw [hf] at h; simp at h) id, fun hf => h3.elim (fun h => by rw [hf] at h; simp at h) id⟩
  have hw0 : rdOf ByteArray.empty (wsS x) 0 = wordK k := by
    rw [hws]
    unfold wordsE rdOf
    rw [hk]
    apply ext_list
    simp
  refine ⟨h60, hb0.1, ?_, ?_, ?_, h7, ?_, ?_, ?_, ?_, ?_⟩
  · rw [hw0, kind_word k (by omega), hk]
  · exact (tnum_word (wsS x) ats en 1 e.f1 0 9999 (by rw [hws]; simp [wordsE]) (by rw [hws]; simp [wordsE]) (by omega) (by omega) (by omega) (by omega)).1
  · exact (tnum_word (wsS x) ats en 1 e.f1 0 9999 (by rw [hws]; simp [wordsE]) (by rw [hws]; simp [wordsE]) (by omega) (by omega) (by omega) (by omega)).2.symm
  · cases hv : varB e.f0 with
    | false => rfl
    | true =>
      rw [if_pos rfl]
      exact (tnum_word (wsS x) ats en 2 e.f2 0 7 (by rw [hws]; simp [wordsE, hv]) (by rw [hws]; simp [wordsE, hv]) (by omega) (by omega) (by omega) (by omega)).1
  · cases hv : varB e.f0 with
    | false => exact hz.1 hv
    | true =>
      rw [if_pos rfl]
      exact (tnum_word (wsS x) ats en 2 e.f2 0 7 (by rw [hws]; simp [wordsE, hv]) (by rw [hws]; simp [wordsE, hv]) (by omega) (by omega) (by omega) (by omega)).2.symm
  · cases hz2 : valB e.f0 with
    | false => rfl
    | true =>
      rw [if_pos rfl]
      cases hv : varB e.f0 with
      | true => rw [if_pos rfl]; exact (tnum_word (wsS x) ats en 3 e.f3 (-2147483648) 2147483647 (by rw [hws]; simp [wordsE, hv, hz2]) (by rw [hws]; simp [wordsE, hv, hz2]) (by omega) (by omega) (by omega) (by omega)).1
      | false => rw [if_neg Bool.false_ne_true]; exact (tnum_word (wsS x) ats en 2 e.f3 (-2147483648) 2147483647 (by rw [hws]; simp [wordsE, hv, hz2]) (by rw [hws]; simp [wordsE, hv, hz2]) (by omega) (by omega) (by omega) (by omega)).1
  · cases hz2 : valB e.f0 with
    | false => exact hz.2 hz2
    | true =>
      rw [if_pos rfl]
      cases hv : varB e.f0 with
      | true => rw [if_pos rfl]; exact (tnum_word (wsS x) ats en 3 e.f3 (-2147483648) 2147483647 (by rw [hws]; simp [wordsE, hv, hz2]) (by rw [hws]; simp [wordsE, hv, hz2]) (by omega) (by omega) (by omega) (by omega)).2.symm
      | false => rw [if_neg Bool.false_ne_true]; exact (tnum_word (wsS x) ats en 2 e.f3 (-2147483648) 2147483647 (by rw [hws]; simp [wordsE, hv, hz2]) (by rw [hws]; simp [wordsE, hv, hz2]) (by omega) (by omega) (by omega) (by omega)).2.symm
  · rw [hws]
    unfold wordsE
    cases varB e.f0 <;> cases valB e.f0 <;> simp
/-- The rows of events' text. -/
def rowsE (h : List S34) : List ByteArray := h.map (fun e => ⟨(joinW (wordsE e)).toArray⟩)
theorem rows_text (h : List S34) (hr : ∀ e ∈ h, rightB e = true) : rowsS ⟨(textL h).toArray⟩ = rowsE h ++ [⟨#[]⟩] := by
  induction h with
  | nil => exact rows_one _ (by simp [textL])
  | cons e t ih =>
    have hok := wordsE_ok (hr e (List.mem_cons_self ..))
    have hx : textL (e :: t) = joinW (wordsE e) ++ 10 :: textL t := by
      show lineL e ++ textL t = _
      rw [line_join]; simp
    rw [rows_two ⟨(textL (e :: t)).toArray⟩ (joinW (wordsE e)) (textL t) (by simpa using hx) (by
      intro c hc
      rcases join_mem _ c hc with rfl | ⟨w, hw, hcw⟩
      · decide
      · exact ((hok w hw).2 c hcw).2.2), ih (fun x hx => hr x (List.mem_cons_of_mem _ hx))]
    rfl
theorem lines_text (h : List S34) (hr : ∀ e ∈ h, rightB e = true) : ∀ (fr : Int) (evs : List S34), (evs ++ h).length ≤ 60 → (namesF (evs ++ h)).length ≤ 6 → linesT (rowsE h ++ [⟨#[]⟩]) fr evs = (evs ++ h, 0, 0) := by
  induction h with
  | nil =>
    intro fr evs _ _
    have h0 : (wsS ⟨#[]⟩).length = 0 := by decide +kernel
    show linesT [⟨#[]⟩] fr evs = _
    rw [linesT, if_pos h0, linesT]
    simp
  | cons e t ih =>
    intro fr evs hl hn
    have hre := hr e (List.mem_cons_self ..)
    have hx : (⟨(joinW (wordsE e)).toArray⟩ : ByteArray).data.toList = joinW (wordsE e) := by simp
    obtain ⟨x, hxx⟩ : ∃ x, x = (⟨(joinW (wordsE e)).toArray⟩ : ByteArray) := ⟨_, rfl⟩
    rw [← hxx] at hx
    have hne : (wsS x).length ≠ 0 := by rw [wsS_line hre x hx]; simp [wordsE]
    have hnm : (namesF (evs ++ [e])).length ≤ 6 := by
      have := names_mono t (evs ++ [e])
      rw [List.append_assoc] at this
      exact Nat.le_trans this hn
    have hln : evs.length ≠ 60 := by simp at hl; omega
    have hwl := wsS_len x
    show linesT ((⟨(joinW (wordsE e)).toArray⟩ : ByteArray) :: (rowsE t ++ [⟨#[]⟩])) fr evs = _
    rw [← hxx, linesT, if_neg hne, tev_shift (wsS x) (atsS x) (x.size : Int) fr evs hwl (by omega), tev_of (good_line hre x hx (atsS x) (x.size : Int) evs hln (seventh_no hnm))]
    dsimp only
    rw [if_neg (by simp)]
    have := ih (fun y hy => hr y (List.mem_cons_of_mem _ hy)) (fr + ((x.size : Int) + 1)) (evs ++ [e]) (by simpa using hl) (by simpa using hn)
    rw [this]
    simp
theorem small_text {e : S34} (h : rightB e = true) : (lineL e).length ≤ 45 := by
  obtain ⟨hb0, hb1, hb2, hb3⟩ := right_bds h
  obtain ⟨k, hk⟩ := Int.eq_ofNat_of_zero_le hb0.1
  obtain ⟨n1, hn1⟩ := Int.eq_ofNat_of_zero_le hb1.1
  obtain ⟨n2, hn2⟩ := Int.eq_ofNat_of_zero_le hb2.1
  have d4 : ∀ u : Nat, u < 10000 → (Lib.decDigits u).length ≤ 4 := by
    intro u hu
    by_cases h1 : u < 10
    · rw [Lib.decDigits_one h1]; simp
    · rw [dec_step u h1]
      by_cases h2 : u / 10 < 10
      · rw [Lib.decDigits_one h2]; simp
      · rw [dec_step _ h2]
        by_cases h3 : u / 10 / 10 < 10
        · rw [Lib.decDigits_one h3]; simp
        · rw [dec_step _ h3, Lib.decDigits_one (by omega)]; simp
  have l1 : (Lib.itoa e.f1).length ≤ 4 := by rw [hn1, Lib.itoa_nonneg]; exact d4 n1 (by omega)
  have l2 : (Lib.itoa e.f2).length ≤ 4 := by rw [hn2, Lib.itoa_nonneg]; exact d4 n2 (by omega)
  have l3 := itoa_size e.f3 hb3.1 hb3.2
  have lw := wordK_size k (by omega)
  rw [Lib.size_eq] at lw
  unfold lineL
  rw [hk, Int.toNat_natCast]
  simp only [List.length_append, List.length_cons, List.length_nil]
  have hv : (if varB (k : Int) = true then (32 : UInt8) :: Lib.itoa e.f2 else []).length ≤ 5 := by split <;> simp <;> omega
  have hz : (if valB (k : Int) = true then (32 : UInt8) :: Lib.itoa e.f3 else []).length ≤ 22 := by split <;> simp <;> omega
  omega
theorem small_texts (l : List S34) (h : ∀ e ∈ l, rightB e = true) : (textL l).length ≤ 45 * l.length := by
  induction l with
  | nil => simp [textL]
  | cons e t ih =>
    have h1 := small_text (h e (List.mem_cons_self ..))
    have h2 := ih (fun x hx => h x (List.mem_cons_of_mem _ hx))
    show (lineL e ++ textL t).length ≤ _
    rw [List.length_append, List.length_cons]
    omega
/-- What is printed is read as the same events. -/
theorem parse_print {h : List S34} (hr : rightsB h = true) : text_Parse.f ⟨(textL h).toArray⟩ = some (h, 0, 0) := by
  obtain ⟨h60, he, h6⟩ := rights_to hr
  have hs := small_texts h he
  unfold text_Parse.f
  have hsz : (⟨(textL h).toArray⟩ : ByteArray).size = (textL h).length := by rw [Lib.size_eq]
  rw [if_neg (by rw [hsz]; omega), rows_text h he, lines_text h he 0 [] h60 h6]
  rfl
/-- What is read well may be. -/
theorem good_right {ws : List ByteArray} {ats : List Int} {en : Int} {evs : List S34} {e : S34} (h : goodE ws ats en evs e) : rightB e = true := by
  obtain ⟨_, h2, h3, h4, h5, _, h7, h8, h9, h10, _⟩ := h
  have hk := kindW_in (rdOf ByteArray.empty ws 0)
  rw [← h3] at hk
  have bd : ∀ (i lo hi : Int), (tnum ws ats en i lo hi).2.2 = 0 → inB (tnum ws ats en i lo hi).1 lo hi = true := by
    intro i lo hi hb
    unfold tnum at hb ⊢
    by_cases hg : i ≥ (ws.length : Int)
    · rw [if_pos hg] at hb; exact absurd hb (show ¬ (4 : Int) = 0 by decide)
    · rw [if_neg hg] at hb ⊢
      split at hb
      · exact absurd hb (show ¬ (3 : Int) = 0 by decide)
      · rename_i hx
        rw [if_neg hx]
        dsimp only at hb ⊢
        cases hi2 : inB (intVal (restOf (rdOf ByteArray.empty ws i)).data.toList (minusOf (rdOf ByteArray.empty ws i))).1 lo hi with
        | true => rfl
        | false => exact absurd ⟨hb, hi2⟩ hx
  have b1 := bd 1 0 9999 h4
  rw [← h5] at b1
  have hb0 : inB e.f0 0 9 = true := by unfold inB; simp; omega
  unfold rightB
  rw [hb0, b1, Bool.true_and, Bool.true_and, Bool.and_eq_true]
  constructor
  · cases hv : varB e.f0 with
    | false =>
      rw [hv] at h8
      have : e.f2 = 0 := h8
      rw [this]; simp
    | true =>
      rw [hv, if_pos rfl] at h7 h8
      have := bd 2 0 7 h7
      rw [← h8] at this
      rw [this]; rfl
  · cases hz : valB e.f0 with
    | false =>
      rw [hz] at h10
      have : e.f3 = 0 := h10
      rw [this]; simp
    | true =>
      rw [hz, if_pos rfl] at h9 h10
      have := bd _ _ _ h9
      rw [← h10] at this
      rw [this]; rfl
theorem lines_right (L : List ByteArray) : ∀ (fr : Int) (evs a : List S34) (x : Int), rightsB evs = true → linesT L fr evs = (a, x, 0) → rightsB a = true := by
  induction L with
  | nil =>
    intro fr evs a x hr h
    rw [linesT] at h
    simp only [Prod.mk.injEq] at h
    rw [← h.1]; exact hr
  | cons s t ih =>
    intro fr evs a x hr h
    rw [linesT] at h
    have hwl := wsS_len s
    by_cases h0 : (wsS s).length = 0
    · rw [if_pos h0] at h
      exact ih _ _ _ _ hr h
    · rw [if_neg h0] at h
      by_cases hb : (tev (wsS s) (shift fr (atsS s)) (fr + s.size) evs).2.2 = 0
      · rw [if_neg (not_not_intro hb)] at h
        have hg := tev_to hb
        obtain ⟨e, he⟩ : ∃ e, e = (tev (wsS s) (shift fr (atsS s)) (fr + s.size) evs).1 := ⟨_, rfl⟩
        rw [← he] at hg h
        obtain ⟨q1, q2, q3⟩ := rights_to hr
        refine ih _ _ _ _ (rights_of ?_ ?_ (names_ok q3 hg.2.2.2.2.2.1)) h
        · have := hg.1
          simp
          omega
        · intro y hy
          rcases List.mem_append.1 hy with h1 | h1
          · exact q2 y h1
          · simp at h1; subst h1; exact good_right hg
      · rw [if_pos hb] at h
        simp only [Prod.mk.injEq] at h
        exact absurd h.2.2 hb
theorem parse_right {s : ByteArray} {a : List S34} {x : Int} (h : text_Parse.f s = some (a, x, 0)) : rightsB a = true := by
  unfold text_Parse.f at h
  have h := Option.some.inj h
  by_cases hs : s.size > 3000
  · rw [if_pos hs] at h
    simp only [Prod.mk.injEq] at h
    exact absurd h.2.2 (by decide)
  · rw [if_neg hs] at h
    exact lines_right _ _ _ _ _ (by decide) h
theorem parse_bad {s : ByteArray} {a : List S34} {x b : Int} (h : text_Parse.f s = some (a, x, b)) (hb : b ≠ 0) : a = [] := by
  have lb : ∀ (L : List ByteArray) (fr : Int) (evs a : List S34) (x b : Int), linesT L fr evs = (a, x, b) → b ≠ 0 → a = [] := by
    intro L
    induction L with
    | nil =>
      intro fr evs a x b h hb
      rw [linesT] at h
      simp only [Prod.mk.injEq] at h
      exact absurd h.2.2.symm hb
    | cons s t ih =>
      intro fr evs a x b h hb
      rw [linesT] at h
      split at h
      · exact ih _ _ _ _ _ h hb
      · split at h
        · simp only [Prod.mk.injEq] at h; exact h.1.symm
        · exact ih _ _ _ _ _ h hb
  unfold text_Parse.f at h
  have h := Option.some.inj h
  split at h
  · simp only [Prod.mk.injEq] at h; exact h.1.symm
  · exact lb _ _ _ _ _ _ h hb
end Go.Proofs.YthkpocgbinmeiaaDoor.U

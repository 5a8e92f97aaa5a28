import Derived.Test.YtoephmnkenlmiaaWordsM
/-! Words of characters: plain lists. -/
namespace Go.Proofs.Ytoephmnkenlmiaa
open Go.RowKit

theorem inB_iff (c : Int) : inB c = true ↔ ((97 ≤ c ∧ c ≤ 122) ∨ (65 ≤ c ∧ c ≤ 90) ∨ (192 ≤ c ∧ c ≤ 591 ∧ c ≠ 215 ∧ c ≠ 247) ∨ (48 ≤ c ∧ c ≤ 57)) := by
  unfold inB letterB digitB
  simp only [Bool.or_eq_true, decide_eq_true_eq]
  omega
theorem fold_cases (c : Int) : (((65 ≤ c ∧ c ≤ 90) ∨ (192 ≤ c ∧ c ≤ 222 ∧ c ≠ 215)) ∧ fold c = c + 32) ∨ (¬ ((65 ≤ c ∧ c ≤ 90) ∨ (192 ≤ c ∧ c ≤ 222 ∧ c ≠ 215)) ∧ fold c = c) := by
  unfold fold
  split
  · exact .inl ⟨by assumption, rfl⟩
  · exact .inr ⟨by assumption, rfl⟩
theorem inB_fold (c : Int) : inB (fold c) = inB c := by
  rw [Bool.eq_iff_iff, inB_iff, inB_iff]
  rcases fold_cases c with ⟨h, e⟩ | ⟨h, e⟩ <;> rw [e] <;> omega
theorem fold_fold (c : Int) : fold (fold c) = fold c := by
  rcases fold_cases c with ⟨h, e⟩ | ⟨h, e⟩ <;> rcases fold_cases (fold c) with ⟨h2, e2⟩ | ⟨h2, e2⟩ <;> rw [e] at * <;> omega
theorem okChar_fold {c : Int} (h : okChar c) : okChar (fold c) := by
  unfold okChar at *
  rcases fold_cases c with ⟨h2, e⟩ | ⟨h2, e⟩ <;> rw [e] <;> omega
theorem okChar_in {c : Int} (h : inB c = true) : okChar c := by
  rw [inB_iff] at h
  unfold okChar; omega
theorem inB_32 : inB 32 = false := by decide

theorem stepW_fold (st : List ByteArray × List Int) (c : Int) : stepW st (fold c) = stepW st c := by
  unfold stepW
  rw [inB_fold, fold_fold]
theorem fld_fold : ∀ (l : List Int) (st : List ByteArray × List Int), (l.map fold).foldl stepW st = l.foldl stepW st
  | [], _ => rfl
  | c :: l, st => by rw [List.map_cons, List.foldl_cons, List.foldl_cons, stepW_fold, fld_fold l]
theorem wordsOf_fold (l : List Int) : wordsOf (l.map fold) = wordsOf l := by unfold wordsOf; rw [fld_fold]

theorem stepW_outs (outs a : List ByteArray) (own : List Int) (c : Int) : stepW (outs ++ a, own) c = (outs ++ (stepW (a, own) c).1, (stepW (a, own) c).2) := by
  unfold stepW
  split
  · rfl
  · split
    · simp [List.append_assoc]
    · rfl
theorem fld_outs : ∀ (l : List Int) (outs a : List ByteArray) (own : List Int), l.foldl stepW (outs ++ a, own) = (outs ++ (l.foldl stepW (a, own)).1, (l.foldl stepW (a, own)).2)
  | [], _, _, _ => rfl
  | c :: l, outs, a, own => by
    rw [List.foldl_cons, List.foldl_cons, stepW_outs]
    exact fld_outs l outs (stepW (a, own) c).1 (stepW (a, own) c).2
theorem stepW_out (st : List ByteArray × List Int) (c : Int) (h : inB c = false) : stepW st c = (if 0 < st.2.length then st.1 ++ [strOf st.2] else st.1, []) := by unfold stepW; rw [h]; rfl
theorem wordsOf_mid (a b : List Int) (c : Int) (h : inB c = false) : wordsOf (a ++ c :: b) = wordsOf a ++ wordsOf b := by
  unfold wordsOf
  rw [List.foldl_append, List.foldl_cons]
  have e : stepW (a.foldl stepW ([], [])) c = (wordsOf a ++ [], []) := by
    unfold wordsOf
    rw [stepW_out _ c h, stepW_out _ 32 inB_32, List.append_nil]
  rw [e, fld_outs]
  have := stepW_outs (wordsOf a) (b.foldl stepW ([], [])).1 (b.foldl stepW ([], [])).2 32
  rw [this]
  rfl
theorem wordsOf_nil : wordsOf [] = [] := rfl

theorem fld_in : ∀ (l own : List Int) (outs : List ByteArray), (∀ c ∈ l, inB c = true) → l.foldl stepW (outs, own) = (outs, own ++ l.map fold)
  | [], own, outs, _ => by simp
  | c :: l, own, outs, h => by
    have e : stepW (outs, own) c = (outs, own ++ [fold c]) := by unfold stepW; rw [if_pos (h c (by simp))]
    rw [List.foldl_cons, e, fld_in l _ _ (fun d hd => h d (by simp [hd]))]
    simp [List.append_assoc]
theorem wordsOf_in (l : List Int) (h : ∀ c ∈ l, inB c = true) (h0 : l ≠ []) : wordsOf l = [strOf (l.map fold)] := by
  unfold wordsOf
  rw [fld_in l [] [] h, stepW_out _ 32 inB_32]
  have hp : 0 < (([] : List Int) ++ l.map fold).length := by
    rw [List.nil_append, List.length_map]
    exact List.length_pos_iff.mpr h0
  rw [if_pos hp]
  rfl

/-- A word: some characters that may be, folded. -/
def Plain (own : List Int) : Prop := own ≠ [] ∧ ∀ c ∈ own, inB c = true ∧ fold c = c
theorem plain_map {own : List Int} (h : Plain own) : own.map fold = own := by
  obtain ⟨_, h2⟩ := h
  induction own with
  | nil => rfl
  | cons c l ih => rw [List.map_cons, (h2 c (by simp)).2]; by_cases hl : l = []
                   · subst hl; rfl
                   · rw [ih hl (fun d hd => h2 d (by simp [hd]))]
theorem wordsOf_plain {own : List Int} (h : Plain own) : wordsOf own = [strOf own] := by rw [wordsOf_in own (fun c hc => (h.2 c hc).1) h.1, plain_map h]
theorem signs_strOf {own : List Int} (h : ∀ c ∈ own, inB c = true) : signs (strOf own).data.toList = own := by
  unfold strOf
  rw [show (⟨(text own).toArray⟩ : ByteArray).data.toList = text own by simp, signs_text, map_good_of_ok _ (fun c hc => okChar_in (h c hc))]
def GoodSt (st : List ByteArray × List Int) : Prop := (∀ x ∈ st.1, ∃ own, Plain own ∧ x = strOf own) ∧ ∀ c ∈ st.2, inB c = true ∧ fold c = c
theorem good_step {st : List ByteArray × List Int} (h : GoodSt st) (c : Int) : GoodSt (stepW st c) := by
  unfold stepW
  split
  · rename_i hc
    refine ⟨h.1, fun d hd => ?_⟩
    rcases List.mem_append.mp hd with hd | hd
    · exact h.2 d hd
    · obtain rfl := List.mem_singleton.mp hd
      exact ⟨by rw [inB_fold]; exact hc, fold_fold c⟩
  · refine ⟨?_, fun d hd => by cases hd⟩
    dsimp only
    split
    · rename_i hl
      intro x hx
      rcases List.mem_append.mp hx with hx | hx
      · exact h.1 x hx
      · obtain rfl := List.mem_singleton.mp hx
        exact ⟨st.2, ⟨List.length_pos_iff.mp hl, h.2⟩, rfl⟩
    · exact h.1
theorem good_fld : ∀ (l : List Int) {st : List ByteArray × List Int}, GoodSt st → GoodSt (l.foldl stepW st)
  | [], _, h => h
  | c :: l, _, h => good_fld l (good_step h c)
theorem wordsOf_good (l : List Int) : ∀ x ∈ wordsOf l, ∃ own, Plain own ∧ x = strOf own :=
  (good_step (good_fld l (st := ([], [])) ⟨fun x hx => (by cases hx), fun x hx => (by cases hx)⟩) 32).1
theorem words_of_word {x : ByteArray} {l : List Int} (h : x ∈ wordsOf l) : wordsOf (signs x.data.toList) = [x] := by
  obtain ⟨own, hp, rfl⟩ := wordsOf_good l x h
  rw [signs_strOf (fun c hc => (hp.2 c hc).1), wordsOf_plain hp]

/-! A blank behind bytes: no sign of theirs turns. -/
theorem byt_append_lt (a b : List UInt8) (i : Nat) (h : i < a.length) : byt (a ++ b) i = byt a i := by
  unfold byt
  rw [List.getD_eq_getElem?_getD, List.getD_eq_getElem?_getD, List.getElem?_append_left h]
theorem byt_append_at (a b : List UInt8) (c : UInt8) : byt (a ++ c :: b) a.length = c.toNat := by
  unfold byt
  rw [List.getD_eq_getElem?_getD, List.getElem?_append_right (Nat.le_refl _)]
  simp
set_option maxHeartbeats 1000000 in
theorem dec_append (a b : List UInt8) (c : UInt8) (hc : c.toNat < 128) (h : 0 < a.length) : dec (a ++ c :: b) = dec a := by
  have e0 := byt_append_lt a (c :: b) 0 h
  have eL := byt_append_at a b c
  have hlen : (a ++ c :: b).length = a.length + 1 + b.length := by simp; omega
  unfold dec
  rw [hlen, e0]
  rcases (by omega : a.length = 1 ∨ a.length = 2 ∨ a.length = 3 ∨ 4 ≤ a.length) with h1 | h1 | h1 | h1
  · rw [h1] at eL ⊢
    unfold Lib.decodeN
    rw [eL]
    simp only [show ¬ (c.toNat / 64 = 2) by omega, show ¬ (1 < 1) by omega, false_and, and_false, if_false]
  · have e1 := byt_append_lt a (c :: b) 1 (by omega)
    rw [h1] at eL ⊢
    unfold Lib.decodeN
    rw [eL, e1]
    simp only [show ¬ (c.toNat / 64 = 2) by omega, show ¬ (2 < 2) by omega, show (1 < 2 + 1 + b.length) by omega, show (1 < 2) by omega, false_and, and_false, if_false, true_and]
  · have e1 := byt_append_lt a (c :: b) 1 (by omega)
    have e2 := byt_append_lt a (c :: b) 2 (by omega)
    rw [h1] at eL ⊢
    unfold Lib.decodeN
    rw [eL, e1, e2]
    simp only [show ¬ (c.toNat / 64 = 2) by omega, show ¬ (3 < 3) by omega, show (1 < 3 + 1 + b.length) by omega, show (2 < 3 + 1 + b.length) by omega, show (1 < 3) by omega, show (2 < 3) by omega, false_and, and_false, if_false, true_and]
  · have e1 := byt_append_lt a (c :: b) 1 (by omega)
    have e2 := byt_append_lt a (c :: b) 2 (by omega)
    have e3 := byt_append_lt a (c :: b) 3 (by omega)
    unfold Lib.decodeN
    rw [e1, e2, e3]
    simp only [show (1 < a.length + 1 + b.length) by omega, show (2 < a.length + 1 + b.length) by omega, show (3 < a.length + 1 + b.length) by omega, show (1 < a.length) by omega, show (2 < a.length) by omega, show (3 < a.length) by omega, true_and]
theorem signs_low (c : UInt8) (b : List UInt8) (hc : c.toNat < 128) : signs (c :: b) = (c.toNat : Int) :: signs b := by
  have e : dec (c :: b) = (c.toNat, 1) := by
    unfold dec Lib.decodeN byt
    rw [List.getD_cons_zero, if_pos hc]
  rw [signs_step _ (by simp), e]
  rfl
theorem signs_mid (c : UInt8) (b : List UInt8) (hc : c.toNat < 128) : ∀ (n : Nat) (a : List UInt8), a.length ≤ n → signs (a ++ c :: b) = signs a ++ (c.toNat : Int) :: signs b
  | 0, a, h => by
    obtain rfl := List.eq_nil_of_length_eq_zero (show a.length = 0 by omega)
    rw [List.nil_append, signs_nil, List.nil_append, signs_low c b hc]
  | n + 1, a, h => by
    by_cases h0 : a.length = 0
    · obtain rfl := List.eq_nil_of_length_eq_zero h0
      rw [List.nil_append, signs_nil, List.nil_append, signs_low c b hc]
    · have hw := dec_width a (by omega)
      rw [signs_step (a ++ c :: b) (by simp; omega), dec_append a b c hc (by omega), signs_step a (by omega), List.drop_append_of_le_length hw.2.1, signs_mid c b hc n (a.drop (dec a).2) (by rw [List.length_drop]; omega)]
      rfl
theorem signs_blank (a b : List UInt8) : signs (a ++ 32 :: b) = signs a ++ 32 :: signs b := signs_mid 32 b (by decide) a.length a (Nat.le_refl _)
theorem words_blank (a b : List UInt8) : wordsOf (signs (a ++ 32 :: b)) = wordsOf (signs a) ++ wordsOf (signs b) := by
  rw [signs_blank]
  exact wordsOf_mid _ _ 32 inB_32
theorem signs_folded (a : List UInt8) : signs (text ((signs a).map fold)) = (signs a).map fold := by
  rw [signs_text, map_good_of_ok]
  intro c hc
  obtain ⟨d, hd, rfl⟩ := List.mem_map.mp hc
  exact okChar_fold (signs_ok a d hd)
/-- A word of one text: whole, folded. -/
theorem words_self (a : ByteArray) : wordsOf (signs a.data.toList) = [a] ↔ (signs a.data.toList ≠ [] ∧ strOf ((signs a.data.toList).map fold) = a ∧ ∀ c ∈ signs a.data.toList, inB c = true) := by
  constructor
  · intro h
    obtain ⟨own, hp, e⟩ := wordsOf_good (signs a.data.toList) a (by rw [h]; simp)
    subst e
    rw [signs_strOf (fun c hc => (hp.2 c hc).1), plain_map hp]
    exact ⟨hp.1, rfl, fun c hc => (hp.2 c hc).1⟩
  · rintro ⟨h1, h2, h3⟩
    rw [wordsOf_in _ h3 h1, h2]
end Go.Proofs.Ytoephmnkenlmiaa

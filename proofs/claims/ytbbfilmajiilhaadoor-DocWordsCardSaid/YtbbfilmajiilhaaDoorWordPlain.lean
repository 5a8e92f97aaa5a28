import Derived.Test.YtbbfilmajiilhaaDoorBnd0
/-! Words of characters: plain lists. -/
set_option linter.unusedVariables false
set_option linter.unusedSimpArgs false
namespace Go.Proofs.YtbbfilmajiilhaaDoor
open Go.RowKit

theorem inB_32 : inB 32 = false := by decide

theorem stepW_outs (outs a : List ByteArray) (own : List Int) (c : Int) : stepW (outs ++ a, own) c = (outs ++ (stepW (a, own) c).1, (stepW (a, own) c).2) := by
  unfold stepW
  split
  · rfl
  · split
    · simp [List.append_assoc]
    · rfl
theorem fld_outs : ∀ (l : List Int) (outs a : List ByteArray) (own : List Int), l.foldl stepW (outs ++ a, own) = (outs ++ (l.foldl stepW (a, own)).1, (l.foldl stepW (a, own)).2)
  | [], _, _, _ => rfl
  | c :: l, outs, a, own => by
    rw [List.foldl_cons, List.foldl_cons, stepW_outs]
    exact fld_outs l outs (stepW (a, own) c).1 (stepW (a, own) c).2
theorem stepW_out (st : List ByteArray × List Int) (c : Int) (h : inB c = false) : stepW st c = (if 0 < st.2.length then st.1 ++ [strOf st.2] else st.1, []) := by unfold stepW; rw [h]; rfl
theorem wordsOf_mid (a b : List Int) (c : Int) (h : inB c = false) : wordsOf (a ++ c :: b) = wordsOf a ++ wordsOf b := by
  unfold wordsOf
  rw [List.foldl_append, List.foldl_cons]
  have e : stepW (a.foldl stepW ([], [])) c = (wordsOf a ++ [], []) := by
    unfold wordsOf
    rw [stepW_out _ c h, stepW_out _ 32 inB_32, List.append_nil]
  rw [e, fld_outs]
  have := stepW_outs (wordsOf a) (b.foldl stepW ([], [])).1 (b.foldl stepW ([], [])).2 32
  rw [this]
  rfl

/-! A blank behind bytes: no sign of theirs turns. -/
theorem byt_append_lt (a b : List UInt8) (i : Nat) (h : i < a.length) : byt (a ++ b) i = byt a i := by
  unfold byt
  rw [List.getD_eq_getElem?_getD, List.getD_eq_getElem?_getD, List.getElem?_append_left h]
theorem byt_append_at (a b : List UInt8) (c : UInt8) : byt (a ++ c :: b) a.length = c.toNat := by
  unfold byt
  rw [List.getD_eq_getElem?_getD, List.getElem?_append_right (Nat.le_refl _)]
  simp
set_option maxHeartbeats 1000000 in
theorem dec_append (a b : List UInt8) (c : UInt8) (hc : c.toNat < 128) (h : 0 < a.length) : dec (a ++ c :: b) = dec a := by
  have e0 := byt_append_lt a (c :: b) 0 h
  have eL := byt_append_at a b c
  have hlen : (a ++ c :: b).length = a.length + 1 + b.length := by simp; omega
  unfold dec
  rw [hlen, e0]
  rcases (by omega : a.length = 1 ∨ a.length = 2 ∨ a.length = 3 ∨ 4 ≤ a.length) with h1 | h1 | h1 | h1
  · rw [h1] at eL ⊢
    unfold Lib.decodeN
    rw [eL]
    simp only [show ¬ (c.toNat / 64 = 2) by omega, show ¬ (1 < 1) by omega, false_and, and_false, if_false]
  · have e1 := byt_append_lt a (c :: b) 1 (by omega)
    rw [h1] at eL ⊢
    unfold Lib.decodeN
    rw [eL, e1]
    simp only [show ¬ (c.toNat / 64 = 2) by omega, show ¬ (2 < 2) by omega, show (1 < 2 + 1 + b.length) by omega, show (1 < 2) by omega, false_and, and_false, if_false, true_and]
  · have e1 := byt_append_lt a (c :: b) 1 (by omega)
    have e2 := byt_append_lt a (c :: b) 2 (by omega)
    rw [h1] at eL ⊢
    unfold Lib.decodeN
    rw [eL, e1, e2]
    simp only [show ¬ (c.toNat / 64 = 2) by omega, show ¬ (3 < 3) by omega, show (1 < 3 + 1 + b.length) by omega, show (2 < 3 + 1 + b.length) by omega, show (1 < 3) by omega, show (2 < 3) by omega, false_and, and_false, if_false, true_and]
  · have e1 := byt_append_lt a (c :: b) 1 (by omega)
    have e2 := byt_append_lt a (c :: b) 2 (by omega)
    have e3 := byt_append_lt a (c :: b) 3 (by omega)
    unfold Lib.decodeN
    rw [e1, e2, e3]
    simp only [show (1 < a.length + 1 + b.length) by omega, show (2 < a.length + 1 + b.length) by omega, show (3 < a.length + 1 + b.length) by omega, show (1 < a.length) by omega, show (2 < a.length) by omega, show (3 < a.length) by omega, true_and]
theorem signs_low (c : UInt8) (b : List UInt8) (hc : c.toNat < 128) : signs (c :: b) = (c.toNat : Int) :: signs b := by
  have e : dec (c :: b) = (c.toNat, 1) := by
    unfold dec Lib.decodeN byt
    rw [List.getD_cons_zero, if_pos hc]
  rw [signs_step _ (by simp), e]
  rfl
theorem signs_mid (c : UInt8) (b : List UInt8) (hc : c.toNat < 128) : ∀ (n : Nat) (a : List UInt8), a.length ≤ n → signs (a ++ c :: b) = signs a ++ (c.toNat : Int) :: signs b
  | 0, a, h => by
    obtain rfl := List.eq_nil_of_length_eq_zero (show a.length = 0 by omega)
    rw [List.nil_append, signs_nil, List.nil_append, signs_low c b hc]
  | n + 1, a, h => by
    by_cases h0 : a.length = 0
    · obtain rfl := List.eq_nil_of_length_eq_zero h0
      rw [List.nil_append, signs_nil, List.nil_append, signs_low c b hc]
    · have hw := dec_width a (by omega)
      rw [signs_step (a ++ c :: b) (by simp; omega), dec_append a b c hc (by omega), signs_step a (by omega), List.drop_append_of_le_length hw.2.1, signs_mid c b hc n (a.drop (dec a).2) (by rw [List.length_drop]; omega)]
      rfl
theorem signs_blank (a b : List UInt8) : signs (a ++ 32 :: b) = signs a ++ 32 :: signs b := signs_mid 32 b (by decide) a.length a (Nat.le_refl _)
theorem words_blank (a b : List UInt8) : wordsOf (signs (a ++ 32 :: b)) = wordsOf (signs a) ++ wordsOf (signs b) := by
  rw [signs_blank]
  exact wordsOf_mid _ _ 32 inB_32

end Go.Proofs.YtbbfilmajiilhaaDoor

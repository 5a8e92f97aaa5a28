import Derived.Lib.DecodeN
import Derived.Lib.RuneBytes
namespace Go.Proofs.YtllmhgkhamoplaaDoor
/-! The signs of bytes, and the text of characters: plain lists. -/
def byt (l : List UInt8) (i : Nat) : Nat := (l.getD i 0).toNat
def dec (l : List UInt8) : Nat × Nat := Lib.decodeN l.length (byt l 0) (byt l 1) (byt l 2) (byt l 3)
def signsF : Nat → List UInt8 → List Int
  | 0, _ => []
  | f + 1, l => if l.length = 0 then [] else ((dec l).1 : Int) :: signsF f (l.drop (dec l).2)
def signs (l : List UInt8) : List Int := signsF l.length l
def text (l : List Int) : List UInt8 := l.flatMap Lib.encodeRune

theorem byt_lt (l : List UInt8) (i : Nat) : byt l i < 256 := UInt8.toNat_lt _

set_option maxHeartbeats 1000000 in
theorem dec_width (l : List UInt8) (h : 0 < l.length) : 1 ≤ (dec l).2 ∧ (dec l).2 ≤ l.length ∧ (dec l).2 ≤ 4 := by
  have h0 := byt_lt l 0; have h1 := byt_lt l 1; have h2 := byt_lt l 2; have h3 := byt_lt l 3
  unfold dec Lib.decodeN
  repeat' split
  all_goals (dsimp only; omega)

set_option maxHeartbeats 1000000 in
theorem dec_max (l : List UInt8) : (dec l).1 ≤ 1114111 := by
  have h0 := byt_lt l 0; have h1 := byt_lt l 1; have h2 := byt_lt l 2; have h3 := byt_lt l 3
  unfold dec Lib.decodeN
  repeat' split
  all_goals (dsimp only; omega)

/-- What is decoded is a character. -/
def okChar (c : Int) : Prop := (0 ≤ c ∧ c < 55296) ∨ (57344 ≤ c ∧ c ≤ 1114111)
instance (c : Int) : Decidable (okChar c) := by unfold okChar; infer_instance
set_option maxHeartbeats 1000000 in
theorem dec_ok (l : List UInt8) : okChar (dec l).1 := by
  have h0 := byt_lt l 0; have h1 := byt_lt l 1; have h2 := byt_lt l 2; have h3 := byt_lt l 3
  unfold okChar dec Lib.decodeN
  repeat' split
  all_goals (dsimp only; omega)

theorem signsF_more : ∀ (f g : Nat) (l : List UInt8), l.length ≤ f → l.length ≤ g → signsF f l = signsF g l
  | 0, 0, _, _, _ => rfl
  | 0, g + 1, l, hf, _ => by simp [signsF, show l.length = 0 by omega]
  | f + 1, 0, l, _, hg => by simp [signsF, show l.length = 0 by omega]
  | f + 1, g + 1, l, hf, hg => by
    simp only [signsF]
    by_cases h : l.length = 0
    · simp [h]
    · have hw := dec_width l (by omega)
      rw [if_neg h, if_neg h, signsF_more f g (l.drop (dec l).2) (by rw [List.length_drop]; omega) (by rw [List.length_drop]; omega)]

theorem signs_nil : signs [] = [] := rfl
theorem signs_step (l : List UInt8) (h : 0 < l.length) : signs l = ((dec l).1 : Int) :: signs (l.drop (dec l).2) := by
  have hw := dec_width l h
  unfold signs
  obtain ⟨n, hn⟩ : ∃ n, l.length = n + 1 := ⟨l.length - 1, by omega⟩
  rw [hn]
  simp only [signsF]
  rw [if_neg (by omega), signsF_more n (l.drop (dec l).2).length (l.drop (dec l).2) (by rw [List.length_drop]; omega) (Nat.le_refl _)]

theorem signsF_length : ∀ (f : Nat) (l : List UInt8), (signsF f l).length ≤ l.length
  | 0, _ => by simp [signsF]
  | f + 1, l => by
    simp only [signsF]
    split
    · simp
    · rename_i h
      have hw := dec_width l (by omega)
      have := signsF_length f (l.drop (dec l).2)
      rw [List.length_drop] at this
      simp; omega
theorem signs_length (l : List UInt8) : (signs l).length ≤ l.length := signsF_length _ _

theorem signsF_ok : ∀ (f : Nat) (l : List UInt8), ∀ c ∈ signsF f l, okChar c
  | 0, _ => by simp [signsF]
  | f + 1, l => by
    simp only [signsF]
    split
    · simp
    · intro c hc
      rcases List.mem_cons.1 hc with rfl | hc
      · exact dec_ok l
      · exact signsF_ok f _ c hc
theorem signs_ok (l : List UInt8) : ∀ c ∈ signs l, okChar c := signsF_ok _ _

/-- The model's own decoding, by places. -/
theorem get_drop (s : ByteArray) (i k : Nat) : (s.get! (i + k)).toNat = byt (s.data.toList.drop i) k := by
  unfold byt
  congr 1
  rw [List.getD_eq_getElem?_getD, List.getElem?_drop]
  show s.data[i + k]! = _
  rw [getElem!_def, Array.getElem?_toList]
  cases s.data[i + k]? <;> rfl
theorem decode_dec (s : ByteArray) (i : Nat) : Utf8.decode s i = dec (s.data.toList.drop i) := by
  rw [Lib.decode_at]
  unfold dec
  rw [← get_drop s i 0, ← get_drop s i 1, ← get_drop s i 2, ← get_drop s i 3]
  simp

/-- A character that may be; 65533 in place of another one. -/
def good (c : Int) : Int := if okChar c then c else 65533
theorem good_ok (c : Int) : okChar (good c) := by
  unfold good; split
  · assumption
  · unfold okChar; omega
theorem good_of_ok {c : Int} (h : okChar c) : good c = c := if_pos h

theorem toU8 (x : Int) (h0 : 0 ≤ x) (h1 : x < 256) : x.toNat.toUInt8.toNat = x.toNat := by
  rw [Nat.toUInt8, UInt8.toNat_ofNat']; omega

set_option maxHeartbeats 1000000 in
theorem dec_text (c : Int) (rest : List UInt8) : dec (Lib.encodeRune c ++ rest) = ((good c).toNat, (Lib.encodeRune c).length) := by
  have hl := Lib.encodeRuneZ_length c
  by_cases h1 : 0 ≤ c ∧ c ≤ 127
  · have e : Lib.encodeRune c = [c.toNat.toUInt8] := by unfold Lib.encodeRune; rw [Lib.encodeRuneZ_one h1.1 h1.2]; rfl
    have hg : good c = c := good_of_ok (by unfold okChar; omega)
    rw [e, hg]
    unfold dec Lib.decodeN byt
    simp only [List.cons_append, List.nil_append, List.getD_cons_zero, List.length_cons, List.length_nil, toU8 c h1.1 (by omega)]
    rw [if_pos (by omega)]
  · by_cases h2 : 128 ≤ c ∧ c ≤ 2047
    · have e : Lib.encodeRune c = [(192 + c / 64).toNat.toUInt8, (128 + c % 64).toNat.toUInt8] := by unfold Lib.encodeRune; rw [Lib.encodeRuneZ_two h2.1 h2.2]; rfl
      have hg : good c = c := good_of_ok (by unfold okChar; omega)
      rw [e, hg]
      unfold dec Lib.decodeN byt
      simp only [List.cons_append, List.nil_append, List.getD_cons_zero, List.getD_cons_succ, List.length_cons, List.length_nil, toU8 (192 + c / 64) (by omega) (by omega), toU8 (128 + c % 64) (by omega) (by omega)]
      rw [if_neg (by omega), if_pos (by omega), if_pos (by omega)]
      simp only [Prod.mk.injEq, and_true]; omega
    · by_cases h3 : (2048 ≤ c ∧ c < 55296) ∨ (57343 < c ∧ c ≤ 65535)
      · have e : Lib.encodeRune c = [(224 + c / 4096).toNat.toUInt8, (128 + c / 64 % 64).toNat.toUInt8, (128 + c % 64).toNat.toUInt8] := by unfold Lib.encodeRune; rw [Lib.encodeRuneZ_three h3]; rfl
        have hg : good c = c := good_of_ok (by unfold okChar; omega)
        rw [e, hg]
        unfold dec Lib.decodeN byt
        simp only [List.cons_append, List.nil_append, List.getD_cons_zero, List.getD_cons_succ, List.length_cons, List.length_nil, toU8 (224 + c / 4096) (by omega) (by omega), toU8 (128 + c / 64 % 64) (by omega) (by omega), toU8 (128 + c % 64) (by omega) (by omega)]
        rw [if_neg (by omega), if_neg (by omega), if_pos (by omega), if_pos (by omega)]
        simp only [Prod.mk.injEq, and_true]; omega
      · by_cases h4 : 65536 ≤ c ∧ c ≤ 1114111
        · have e : Lib.encodeRune c = [(240 + c / 262144).toNat.toUInt8, (128 + c / 4096 % 64).toNat.toUInt8, (128 + c / 64 % 64).toNat.toUInt8, (128 + c % 64).toNat.toUInt8] := by unfold Lib.encodeRune; rw [Lib.encodeRuneZ_four h4.1 h4.2]; rfl
          have hg : good c = c := good_of_ok (by unfold okChar; omega)
          rw [e, hg]
          unfold dec Lib.decodeN byt
          simp only [List.cons_append, List.nil_append, List.getD_cons_zero, List.getD_cons_succ, List.length_cons, List.length_nil, toU8 (240 + c / 262144) (by omega) (by omega), toU8 (128 + c / 4096 % 64) (by omega) (by omega), toU8 (128 + c / 64 % 64) (by omega) (by omega), toU8 (128 + c % 64) (by omega) (by omega)]
          rw [if_neg (by omega), if_neg (by omega), if_neg (by omega), if_pos (by omega), if_pos (by omega)]
          simp only [Prod.mk.injEq, and_true]; omega
        · have e : Lib.encodeRune c = [239, 191, 189] := by unfold Lib.encodeRune; rw [Lib.encodeRuneZ_bad (by omega)]; rfl
          have hg : good c = 65533 := if_neg (by unfold okChar; omega)
          rw [e, hg]
          unfold dec Lib.decodeN byt
          simp only [List.cons_append, List.nil_append, List.getD_cons_zero, List.getD_cons_succ, List.length_cons, List.length_nil]
          rw [if_neg (by decide), if_neg (by simp), if_pos (by simp), if_pos (by simp)]
          rfl

theorem encode_pos (c : Int) : 0 < (Lib.encodeRune c).length := by have := Lib.encodeRuneZ_length c; simp [Lib.encodeRune]; omega
theorem encode_le (c : Int) : (Lib.encodeRune c).length ≤ 4 := by have := Lib.encodeRuneZ_length c; simp [Lib.encodeRune]; omega

/-- Signs of a character's text, and what stands behind it. -/
theorem signs_encode (c : Int) (rest : List UInt8) : signs (Lib.encodeRune c ++ rest) = good c :: signs rest := by
  have hp := encode_pos c
  rw [signs_step _ (by rw [List.length_append]; omega), dec_text]
  simp only [List.drop_left]
  have := good_ok c
  unfold okChar at this
  rw [Int.toNat_of_nonneg (by omega)]
theorem text_cons (c : Int) (l : List Int) : text (c :: l) = Lib.encodeRune c ++ text l := rfl
theorem signs_text_append : ∀ (l : List Int) (rest : List UInt8), signs (text l ++ rest) = l.map good ++ signs rest
  | [], rest => rfl
  | c :: l, rest => by rw [text_cons, List.append_assoc, signs_encode, signs_text_append l rest]; rfl
theorem signs_text (l : List Int) : signs (text l) = l.map good := by
  have := signs_text_append l []
  rwa [List.append_nil, signs_nil, List.append_nil] at this
theorem encode_good (c : Int) : Lib.encodeRune (good c) = Lib.encodeRune c := by
  unfold good
  split
  · rfl
  · rename_i h
    unfold okChar at h
    unfold Lib.encodeRune
    rw [Lib.encodeRuneZ_bad (r := c) (by omega)]
    rfl
theorem text_good : ∀ l : List Int, text (l.map good) = text l
  | [] => rfl
  | c :: l => by rw [List.map_cons, text_cons, text_cons, encode_good, text_good l]
theorem map_good_of_ok : ∀ (l : List Int), (∀ c ∈ l, okChar c) → l.map good = l
  | [], _ => rfl
  | c :: l, h => by rw [List.map_cons, good_of_ok (h c (by simp)), map_good_of_ok l (fun d hd => h d (by simp [hd]))]
/-- Signs of a text of signs are these. -/
theorem signs_text_signs (s : List UInt8) : signs (text (signs s)) = signs s := by
  rw [signs_text, map_good_of_ok _ (signs_ok s)]
theorem text_append (a b : List Int) : text (a ++ b) = text a ++ text b := List.flatMap_append
theorem text_length (l : List Int) : (text l).length ≤ 4 * l.length := by
  induction l with
  | nil => simp [text]
  | cons c l ih => rw [text_cons, List.length_append, List.length_cons]; have := encode_le c; omega
end Go.Proofs.YtllmhgkhamoplaaDoor

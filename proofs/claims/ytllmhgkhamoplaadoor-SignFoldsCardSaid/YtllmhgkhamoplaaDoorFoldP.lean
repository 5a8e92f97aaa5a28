/- SignFolds: the printed function answers true. No condition. -/
import Derived.Test.YtllmhgkhamoplaaDoorRefs
import Derived.Test.YtllmhgkhamoplaaDoorPAllx5
namespace Go.Proofs.YtllmhgkhamoplaaDoor
open Go.RowKit Go.Lib Go.Proofs.YtllmhgkhamoplaaDoor.PAll Go.Proofs.YtllmhgkhamoplaaDoorW.PrintWords Go.Proofs.YtllmhgkhamoplaaDoorW.PrintLast

def letterB (c : Int) : Bool := decide ((97 ≤ c ∧ c ≤ 122) ∨ (65 ≤ c ∧ c ≤ 90) ∨ (192 ≤ c ∧ c ≤ 591 ∧ c ≠ 215 ∧ c ≠ 247))
def digitB (c : Int) : Bool := decide (48 ≤ c ∧ c ≤ 57)
theorem Ev.const {α β : Type} {o : Option α} {a : α} {f : Nat → α → Option β} {r : β} (h : o = some a) (k : Ev (fun n => f n a) r) : Ev (fun n => o.bind (f n)) r := by subst h; exact k
theorem fold_fold (c : Int) : fold (fold c) = fold c := by
  unfold fold
  split
  · rw [if_neg (by omega)]
  · rfl
theorem fold_ok {c : Int} (h : okChar c) : okChar (fold c) := by unfold okChar at *; unfold fold; split <;> omega
theorem letter_fold (c : Int) : letterB (fold c) = letterB c := by
  unfold letterB fold
  rw [Bool.eq_iff_iff, decide_eq_true_iff, decide_eq_true_iff]
  split <;> omega
theorem digit_fold (c : Int) : digitB (fold c) = digitB c := by
  unfold digitB fold
  rw [Bool.eq_iff_iff, decide_eq_true_iff, decide_eq_true_iff]
  split <;> omega
theorem letter_f (c : Int) : sign_Letter.f c = some (letterB c) := by
  unfold sign_Letter.f letterB
  by_cases h247 : c = 247
  · subst h247; decide
  · have e : (c != 247) = true := by simpa using h247
    rw [e]
    repeat' split
    all_goals (congr 1; first | (symm; rw [decide_eq_true_iff]; omega) | (symm; rw [decide_eq_false_iff_not]; omega))
theorem digit_f (c : Int) : sign_Digit.f c = some (digitB c) := by
  unfold sign_Digit.f digitB
  split
  · congr 1; rw [Bool.eq_iff_iff, decide_eq_true_iff, decide_eq_true_iff]; omega
  · congr 1; symm; rw [decide_eq_false_iff_not]; omega
theorem fold_f (c : Int) (h : okChar c) : sign_Fold.f c = some (fold c) := by
  have hw : wrap64 (c + 32) = c + 32 := wrap_small _ (by unfold okChar at h; omega)
  unfold sign_Fold.f fold
  rw [hw]
  repeat' split
  all_goals first | rfl | (exfalso; omega)
theorem rfold_f (c : Int) (h : okChar c) : concordanceref01_Fold.f c = some (fold c) := by
  have hw : wrap64 (c + 32) = c + 32 := wrap_small _ (by unfold okChar at h; omega)
  unfold concordanceref01_Fold.f fold
  rw [hw]
  repeat' split
  all_goals first | rfl | (exfalso; omega)
theorem decL (l : List UInt8) : decodeL l = dec l := by
  unfold decodeL
  rw [decode_dec]
  simp
theorem mapD_text : ∀ (n : Nat) (l : List UInt8), l.length ≤ n → mapD fold l = text ((signs l).map fold)
  | 0, l, h => by
    obtain rfl : l = [] := List.eq_nil_of_length_eq_zero (by omega)
    rfl
  | n + 1, l, h => by
    by_cases h0 : 0 < l.length
    · have hw := dec_width l h0
      have hf : 0 ≤ fold ((dec l).1 : Int) := by unfold fold; split <;> omega
      rw [mapD_step fold l (by intro e; rw [e] at h0; simp at h0), decL, if_pos hf, signs_step l h0, List.map_cons, text_cons, mapD_text n _ (by rw [List.length_drop]; omega)]
    · obtain rfl : l = [] := List.eq_nil_of_length_eq_zero (by omega)
      rfl
def folded (l : List UInt8) : List Int := (signs l).map fold
theorem folded_ok (l : List UInt8) : ∀ c ∈ folded l, okChar c := by
  intro c hc
  obtain ⟨d, hd, rfl⟩ := List.mem_map.1 hc
  exact fold_ok (signs_ok l d hd)
theorem signs_folded (l : List UInt8) : signs (text (folded l)) = folded l := by rw [signs_text, map_good_of_ok _ (folded_ok l)]
def foldT (s : ByteArray) : ByteArray := ⟨(text (folded s.data.toList)).toArray⟩
theorem foldT_data (s : ByteArray) : (foldT s).data.toList = text (folded s.data.toList) := by unfold foldT; simp
theorem foldT_f (s : ByteArray) (h : s.size ≤ 1000000) : sign_FoldText.f s = some (foldT s) := by
  unfold sign_FoldText.f
  rw [if_pos h, mapD_text _ _ (Nat.le_refl _)]
  rfl
theorem foldT_fold (s : ByteArray) : foldT (foldT s) = foldT s := by
  show (⟨(text (folded (foldT s).data.toList)).toArray⟩ : ByteArray) = foldT s
  rw [foldT_data]
  unfold folded
  rw [show signs (text ((signs s.data.toList).map fold)) = (signs s.data.toList).map fold from signs_folded _, List.map_map]
  have : (signs s.data.toList).map (fold ∘ fold) = (signs s.data.toList).map fold := List.map_congr_left fun c _ => fold_fold c
  rw [this]
  rfl
theorem foldT_size (s : ByteArray) : (foldT s).size ≤ 4 * s.size := by
  rw [← size_data, foldT_data]
  have h1 := text_length (folded s.data.toList)
  have h2 := signs_length s.data.toList
  unfold folded at *
  rw [List.length_map] at h1
  rw [size_data] at h2
  omega
theorem rfold_loop (l : List Int) (hl : l.length ≤ 1000000) (hok : ∀ c ∈ l, okChar c) : ∀ d i : Nat, i + d = l.length → Ev (fun k => concordanceref01_FoldText.l0 k ((l.take i).map fold ++ l.drop i) (i : Int)) ⟨(text (l.map fold)).toArray⟩
  | 0, i, hi => by
    have e1 : (l.take i).map fold ++ l.drop i = l.map fold := by rw [List.take_of_length_le (by omega), List.drop_of_length_le (by omega), List.append_nil]
    rw [e1]
    refine Ev.step (fun k => by rw [concordanceref01_FoldText.l0]) (Ev.neg (by rw [List.length_map]; omega) ?_)
    exact Ev.bind (rtext_ev _ (by rw [List.length_map]; omega)) (Ev.ret rfl)
  | d + 1, i, hi => by
    have ih := rfold_loop l hl hok d (i + 1) (by omega)
    have hlen : ((l.take i).map fold ++ l.drop i).length = l.length := by rw [List.length_append, List.length_map, List.length_take, List.length_drop]; omega
    have hti : ((l.take i).map fold).length = i := by rw [List.length_map, List.length_take]; omega
    have hrd : rd ((l.take i).map fold ++ l.drop i) (i : Int) = l[i] := by
      unfold rd
      rw [Int.toNat_natCast, List.getD_eq_getElem?_getD, List.getElem?_append_right (by omega), hti, Nat.sub_self, List.getElem?_drop, Nat.add_zero, List.getElem?_eq_getElem (by omega)]
      rfl
    have hset : ((l.take i).map fold ++ l.drop i).set i (fold l[i]) = (l.take (i + 1)).map fold ++ l.drop (i + 1) := by
      rw [List.take_succ_eq_append_getElem (by omega), List.map_append, List.append_assoc, List.set_append_right _ _ (by omega), hti, Nat.sub_self, List.drop_eq_getElem_cons (by omega), List.set_cons_zero]
      rfl
    refine Ev.step (fun k => by rw [concordanceref01_FoldText.l0, hrd, wrap_small (i + 1) (by omega), Int.toNat_natCast]) ?_
    refine Ev.pos (by rw [hlen]; omega) (Ev.pos (by omega) (Ev.const (rfold_f _ (hok _ (List.getElem_mem _))) ?_))
    rw [hset]
    exact_mod_cast ih
theorem rfold_ev (s : ByteArray) (h : s.size ≤ 1000000) : Ev (fun k => concordanceref01_FoldText.f k s) (foldT s) := by
  have hs := signs_length s.data.toList
  rw [size_data] at hs
  unfold concordanceref01_FoldText.f
  refine Ev.bind (rsigns_ev s (by omega)) ?_
  have := rfold_loop (signs s.data.toList) (by omega) (signs_ok _) (signs s.data.toList).length 0 (by omega)
  rw [List.take_zero, List.drop_zero, List.map_nil, List.nil_append] at this
  exact this
theorem signs_f (a : ByteArray) (h : a.size ≤ 1000000000000) : sign_Signs.f a = some (signs a.data.toList) := if_pos h
theorem lives_ok : concordancelaw01_lives.f = some true := by
  unfold concordancelaw01_lives.f
  rw [signs_f _ (by decide)]
  have hl : signs (ByteArray.mk #[97, 255]).data.toList = [97, 65533] := by decide
  rw [hl]
  decide +kernel
theorem rd_at (l : List Int) (i : Nat) (h : i < l.length) : rd l (i : Int) = l[i] := by unfold rd; rw [Int.toNat_natCast, List.getD_eq_getElem?_getD, List.getElem?_eq_getElem h]; rfl
theorem law_loop (a : List Int) (ha : a.length ≤ 1000000) (hok : ∀ c ∈ a, okChar c) : ∀ d i : Nat, i + d = a.length → Ev (fun k => concordancelaw01_SignFolds.l0 k a (a.map fold) (i : Int)) true
  | 0, i, hi => by
    refine Ev.step (fun k => by rw [concordancelaw01_SignFolds.l0]) (Ev.neg (by omega) ?_)
    exact Ev.const lives_ok (Ev.ret rfl)
  | d + 1, i, hi => by
    have ih := law_loop a ha hok d (i + 1) (by omega)
    have e2 : rd (a.map fold) (i : Int) = fold a[i] := by rw [rd_at _ i (by rw [List.length_map]; omega), List.getElem_map]
    refine Ev.step (fun k => by rw [concordancelaw01_SignFolds.l0, wrap_small (i + 1) (by omega), e2, rd_at a i (by omega)]) ?_
    refine Ev.pos (by omega) (Ev.pos (by omega) (Ev.const (letter_f _) (Ev.pos (by rw [List.length_map]; omega) (Ev.const (letter_f _) (Ev.neg (by rw [letter_fold]; simp) (Ev.const (digit_f _) (Ev.const (digit_f _) (Ev.neg (by rw [digit_fold]; simp) (Ev.const (fold_f _ (hok _ (List.getElem_mem _))) (Ev.pos rfl ?_))))))))))
    exact_mod_cast ih
theorem few_ok (a : ByteArray) : ∃ b, concordancelaw01_few.f a = some b ∧ b.size ≤ 100 := by
  unfold concordancelaw01_few.f
  by_cases h : (a.size : Int) > 100
  · rw [if_pos h, if_pos (by decide), if_pos (by omega)]
    refine ⟨_, rfl, ?_⟩
    rw [← size_data, ByteArray.data_extract, Array.toList_extract]
    simp
    omega
  · rw [if_neg h]
    exact ⟨a, rfl, by omega⟩
theorem law_ev (a0 : ByteArray) : Ev (fun k => concordancelaw01_SignFolds.f k a0) true := by
  obtain ⟨b, hb, hbs⟩ := few_ok a0
  have hfs := foldT_size b
  have hsl := signs_length b.data.toList
  rw [size_data] at hsl
  unfold concordancelaw01_SignFolds.f
  refine Ev.const hb (Ev.const (foldT_f b (by omega)) (Ev.bind (rfold_ev b (by omega)) (Ev.pos rfl (Ev.const (foldT_f _ (by omega)) ?_))))
  rw [foldT_fold]
  refine Ev.step (fun k => by rw [concordancelaw01_SignFolds.j0]) (Ev.neg (by simp) ?_)
  refine Ev.const (signs_f b (by omega)) (Ev.const (signs_f _ (by omega)) ?_)
  rw [foldT_data, signs_folded]
  refine Ev.pos (by unfold folded; rw [List.length_map]) ?_
  exact law_loop (signs b.data.toList) (by omega) (signs_ok _) (signs b.data.toList).length 0 (by omega)
end Go.Proofs.YtllmhgkhamoplaaDoor

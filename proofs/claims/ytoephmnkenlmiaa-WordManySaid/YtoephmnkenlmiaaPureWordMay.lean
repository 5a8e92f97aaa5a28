/- WordMay: which words may be is told as the document says; words of words with blanks between are these; the pure statement behind the walk. No condition beyond the row's own. -/
import Derived.Test.YtoephmnkenlmiaaPureWordFolds
import Derived.Test.YtoephmnkenlmiaaPAllx6
namespace Go.Proofs.Ytoephmnkenlmiaa.Pure
open Go.RowKit Go.Proofs.Ytoephmnkenlmiaa.PAll Go.Proofs.YtoephmnkenlmiaaW.PrintWords Go.Proofs.YtoephmnkenlmiaaW.PrintLast

theorem stAt_size (l : List Int) : ∀ k, ∀ x ∈ (stAt l k).1, x.size ≤ 4 * k
  | 0 => by intro x hx; simp [stAt] at hx
  | k + 1 => by
    have ih := stAt_size l k
    have hl := stAt_len l k
    intro x hx
    by_cases h : k < l.length
    · rw [stAt_succ l k h] at hx
      unfold stepW at hx
      split at hx
      · have := ih x hx; omega
      · dsimp only at hx
        split at hx
        · rcases List.mem_append.mp hx with hx | hx
          · have := ih x hx; omega
          · obtain rfl := List.mem_singleton.mp hx
            have := strOf_size (stAt l k).2
            omega
        · have := ih x hx; omega
    · have e : stAt l (k + 1) = stAt l k := by unfold stAt; rw [List.take_of_length_le (by omega), List.take_of_length_le (by omega)]
      rw [e] at hx
      have := ih x hx; omega
theorem words_size (l : List Int) : ∀ x ∈ wordsOf l, x.size ≤ 4 * l.length := by
  intro x hx
  have h1 := stAt_size l l.length
  have h2 := stAt_len l l.length
  rw [stAt_all] at h1 h2
  unfold wordsOf at hx
  rw [stepW_out _ 32 inB_32] at hx
  dsimp only at hx
  split at hx
  · rcases List.mem_append.mp hx with hx | hx
    · exact h1 x hx
    · obtain rfl := List.mem_singleton.mp hx
      have := strOf_size (l.foldl stepW ([], [])).2
      omega
  · exact h1 x hx

theorem rmay_loop (l : List Int) (hl : l.length ≤ 1000000000) (d : Nat) : ∀ i : Nat, i + d = l.length → Ev (fun k => concordanceref02_May.l0 k l (i : Int)) ((l.drop i).all inB) := by
  induction d with
  | zero =>
    intro i hi
    refine Ev.step (fun k => by rw [concordanceref02_May.l0]) (Ev.neg (by omega) (Ev.ret ?_))
    rw [List.drop_eq_nil_of_le (by omega)]
    simp
  | succ d ih =>
    intro i hi
    have hg := ih (i + 1) (by omega)
    have e : l.drop i = l[i] :: l.drop (i + 1) := List.drop_eq_getElem_cons (by omega)
    refine Ev.step (fun k => by rw [concordanceref02_May.l0, rd_nat l i (by omega), rin_f, Option.bind_some, wrap_small (i + 1) (by omega)]) (Ev.pos (by omega) (Ev.pos (by omega) ?_))
    rw [e]
    cases hb : inB l[i] with
    | true =>
      refine Ev.pos rfl ?_
      rw [List.all_cons, hb, Bool.true_and]
      exact_mod_cast hg
    | false =>
      refine Ev.neg (by decide) (Ev.ret ?_)
      rw [List.all_cons, hb, Bool.false_and]
theorem rmay_ev (a : ByteArray) (h : a.size ≤ 1000000000) : Ev (fun k => concordanceref02_May.f k a) (decide (wordsOf (signs a.data.toList) = [a]) && decide ((a.size : Int) ≤ 30)) := by
  have hl := signs_length a.data.toList
  rw [size_data] at hl
  have hw := words_self a
  unfold concordanceref02_May.f
  refine Ev.bind (rsigns_ev a (by omega)) ?_
  have hj : ∀ b : Bool, b = true → Ev (fun k => concordanceref02_May.j0 k (signs a.data.toList) b) false := fun b hb => Ev.step (fun k => by rw [concordanceref02_May.j0]) (Ev.pos hb (Ev.ret rfl))
  by_cases h0 : ((signs a.data.toList).length : Int) = 0
  · have e : decide (wordsOf (signs a.data.toList) = [a]) = false := by
      rw [decide_eq_false_iff_not, hw]
      intro hh
      exact hh.1 (List.eq_nil_of_length_eq_zero (by omega))
    rw [e]
    exact Ev.pos h0 (hj _ rfl)
  · refine Ev.neg h0 ?_
    by_cases h1 : (a.size : Int) > 30
    · have e : decide ((a.size : Int) ≤ 30) = false := by rw [decide_eq_false_iff_not]; omega
      rw [e, Bool.and_false]
      exact Ev.pos h1 (hj _ rfl)
    · refine Ev.neg h1 (Ev.bind (foldT_ev a (by omega)) ?_)
      have e : decide ((a.size : Int) ≤ 30) = true := by rw [decide_eq_true_iff]; omega
      rw [e, Bool.and_true]
      by_cases h2 : strOf ((signs a.data.toList).map fold) = a
      · rw [h2]
        refine Ev.step (fun k => by rw [concordanceref02_May.j0]) (Ev.neg (by simp) ?_)
        have hg := rmay_loop (signs a.data.toList) (by omega) (signs a.data.toList).length 0 (by omega)
        have e3 : decide (wordsOf (signs a.data.toList) = [a]) = ((signs a.data.toList).drop 0).all inB := by
          rw [Bool.eq_iff_iff, decide_eq_true_iff, hw, List.drop_zero, List.all_eq_true]
          exact ⟨fun hh => hh.2.2, fun hh => ⟨fun e4 => h0 (by rw [e4]; rfl), h2, hh⟩⟩
        rw [e3]
        exact hg
      · have e3 : decide (wordsOf (signs a.data.toList) = [a]) = false := by
          rw [decide_eq_false_iff_not, hw]
          exact fun hh => h2 hh.2.1
        rw [e3]
        refine hj _ ?_
        simp only [bne_iff_ne, ne_eq]
        exact fun hh => h2 (toList_inj.mp hh)

/-- The words so far, a blank behind each. -/
def tAt (l : List ByteArray) (i : Nat) : List UInt8 := (l.take i).flatMap (fun x => x.data.toList ++ [32])
theorem tAt_succ (l : List ByteArray) (i : Nat) (h : i < l.length) : tAt l (i + 1) = tAt l i ++ (l[i].data.toList ++ [32]) := by
  unfold tAt
  rw [List.take_succ_eq_append_getElem h, List.flatMap_append]
  simp
theorem tAt_len (l : List ByteArray) (hs : ∀ x ∈ l, x.size ≤ 1000) : ∀ i, (tAt l i).length ≤ 1001 * i
  | 0 => by simp [tAt]
  | i + 1 => by
    have ih := tAt_len l hs i
    by_cases h : i < l.length
    · have := hs l[i] (List.getElem_mem h)
      rw [tAt_succ l i h, List.length_append, List.length_append, size_data]
      simp only [List.length_cons, List.length_nil]
      omega
    · have e : tAt l (i + 1) = tAt l i := by unfold tAt; rw [List.take_of_length_le (by omega), List.take_of_length_le (by omega)]
      rw [e]; omega
theorem words_tAt (l : List ByteArray) (hl : ∀ x ∈ l, wordsOf (signs x.data.toList) = [x]) : ∀ i (y : List UInt8), wordsOf (signs (tAt l i ++ y)) = l.take i ++ wordsOf (signs y)
  | 0, y => by simp [tAt]
  | i + 1, y => by
    by_cases h : i < l.length
    · rw [tAt_succ l i h, List.append_assoc, List.append_assoc, words_tAt l hl i]
      show _ ++ wordsOf (signs (l[i].data.toList ++ 32 :: y)) = _
      rw [words_blank, hl l[i] (List.getElem_mem h), List.take_succ_eq_append_getElem h, List.append_assoc]
    · have e : tAt l (i + 1) = tAt l i := by unfold tAt; rw [List.take_of_length_le (by omega), List.take_of_length_le (by omega)]
      rw [e, words_tAt l hl i, List.take_of_length_le (by omega), List.take_of_length_le (by omega)]

theorem may_loop (s : ByteArray) (hs : s.size ≤ 60) (l : List ByteArray) (hl : l = wordsOf (signs s.data.toList)) (d : Nat) : ∀ (i : Nat) (t : ByteArray), i + d = l.length → t.data.toList = tAt l i → Ev (fun k => concordancelaw02_WordMay.l0 k s l t (i : Int)) true := by
  have hll := words_len s.data.toList
  rw [size_data, ← hl] at hll
  have hsz : ∀ x ∈ l, x.size ≤ 1000 := by
    intro x hx
    have := words_size _ x (hl ▸ hx)
    have := signs_length s.data.toList
    rw [size_data] at this
    omega
  have hw : ∀ x ∈ l, wordsOf (signs x.data.toList) = [x] := fun x hx => words_of_word (hl ▸ hx)
  induction d with
  | zero =>
    intro i t hi ht
    have htl := tAt_len l hsz i
    have hts : t.size = (tAt l i).length := by rw [← ht, size_data]
    refine Ev.step (fun k => by rw [concordancelaw02_WordMay.l0]) (Ev.neg (by omega) ?_)
    refine Ev.const (may_f s (by omega)) (Ev.bind (rmay_ev s (by omega)) (Ev.pos (by simp) ?_))
    refine Ev.const (words_ok t (by omega)) ?_
    have e : wordsOf (signs t.data.toList) = l := by
      have := words_tAt l hw i []
      rw [List.append_nil, signs_nil, wordsOf_nil, List.append_nil, List.take_of_length_le (by omega)] at this
      rw [ht, this]
    rw [e]
    exact Ev.bind (same_ev l l rfl (by omega)) (Ev.pos rfl (Ev.const lives_ok (Ev.ret rfl)))
  | succ d ih =>
    intro i t hi ht
    have htl := tAt_len l hsz i
    have hts : t.size = (tAt l i).length := by rw [← ht, size_data]
    have hx := hsz l[i] (List.getElem_mem (by omega))
    have hwx := hw l[i] (List.getElem_mem (by omega))
    have hb : (some (decide (wordsOf (signs l[i].data.toList) = [l[i]]) && decide ((l[i].size : Int) ≤ 30)) : Option Bool) = some (decide ((l[i].size : Int) ≤ 30)) := by rw [hwx]; simp
    have hm := may_f l[i] (by omega)
    rw [hb] at hm
    have h1 : (t ++ l[i]).size = t.size + l[i].size := by rw [← size_data, data_append, List.length_append, size_data, size_data]
    have hg := ih (i + 1) ((t ++ l[i]) ++ (⟨#[32]⟩ : ByteArray)) (by omega) (by rw [data_append, data_append, tAt_succ l i (by omega), ht, List.append_assoc])
    refine Ev.step (fun k => by rw [concordancelaw02_WordMay.l0, rdS_nat l i (by omega), hm, Option.bind_some, wrap_small (i + 1) (by omega)]) ?_
    refine Ev.pos (by omega) (Ev.pos (by omega) (Ev.neg (by simp) (Ev.pos (by omega) (Ev.pos (by omega) ?_))))
    exact_mod_cast hg
theorem WordMay : concordancelaw02_WordMay.Pure := by
  intro a _
  obtain ⟨s, hs, hs2⟩ := few_ok a 60 (by decide)
  apply Ev.rounds
  unfold concordancelaw02_WordMay.f
  refine Ev.const hs (Ev.const (words_ok s (by omega)) ?_)
  exact may_loop s hs2 _ rfl (wordsOf (signs s.data.toList)).length 0 ⟨#[]⟩ (by omega) rfl
end Go.Proofs.Ytoephmnkenlmiaa.Pure

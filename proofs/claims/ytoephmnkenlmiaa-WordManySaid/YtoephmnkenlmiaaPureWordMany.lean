/- WordMany: so many words, or so long a word, may be, and no more; the pure statement behind the walk. No condition beyond the row's own. -/
import Derived.Test.YtoephmnkenlmiaaPureWordWords
import Derived.Test.YtoephmnkenlmiaaPAllx8
namespace Go.Proofs.Ytoephmnkenlmiaa.Pure
open Go.RowKit Go.Proofs.Ytoephmnkenlmiaa.PAll Go.Proofs.YtoephmnkenlmiaaW.PrintWords Go.Proofs.YtoephmnkenlmiaaW.PrintLast

def wA : ByteArray := ⟨#[97]⟩
def wB (k : Nat) : ByteArray := strOf (List.replicate k 98)
theorem text_b : ∀ k, text (List.replicate k 98) = List.replicate k 98
  | 0 => rfl
  | k + 1 => by rw [List.replicate_succ, text_cons, text_b k]; rfl
theorem wB_size (k : Nat) : (wB k).size = k := by
  unfold wB strOf
  rw [← size_data, show (⟨(text (List.replicate k 98)).toArray⟩ : ByteArray).data.toList = text (List.replicate k 98) by simp, text_b, List.length_replicate]
theorem words_wA : wordsOf (signs wA.data.toList) = [wA] := by decide +kernel
/-- The bytes of so many words, and of a long one. -/
def bytesM (m k : Nat) : List UInt8 := tAt (List.replicate m wA) m ++ List.replicate k 98
theorem words_many (m k : Nat) (hk : 0 < k) : wordsOf (signs (bytesM m k)) = List.replicate m wA ++ [wB k] := by
  unfold bytesM
  rw [words_tAt (List.replicate m wA) (fun x hx => by rw [(List.mem_replicate.mp hx).2]; exact words_wA) m]
  rw [List.take_of_length_le (by rw [List.length_replicate]; omega), ← text_b, signs_text, map_good_of_ok _ (fun c hc => by rw [(List.mem_replicate.mp hc).2]; decide)]
  have hp : Plain (List.replicate k 98) := ⟨by intro e; have := congrArg List.length e; simp at this; omega, fun c hc => by rw [(List.mem_replicate.mp hc).2]; decide⟩
  rw [wordsOf_plain hp]
  rfl
theorem nums_tAt (m : Nat) : ∀ i, i ≤ m → tAt (List.replicate m wA) (i + 1) = if i < m then tAt (List.replicate m wA) i ++ [97, 32] else tAt (List.replicate m wA) i := by
  intro i hi
  by_cases h : i < m
  · rw [if_pos h, tAt_succ _ i (by rw [List.length_replicate]; exact h), List.getElem_replicate]
    rfl
  · rw [if_neg h]
    unfold tAt
    rw [List.take_of_length_le (by rw [List.length_replicate]; omega), List.take_of_length_le (by rw [List.length_replicate]; omega)]

theorem tok_wA : ∀ (m i : Nat) (acc : List S35) (r : List ByteArray), acc.length = i → i + m ≤ 500 → ∃ acc', acc'.length = i + m ∧ tokL (List.replicate m wA ++ r) i acc = tokL r (i + m) acc'
  | 0, i, acc, r, ha, _ => ⟨acc, ha, rfl⟩
  | m + 1, i, acc, r, ha, h => by
    obtain ⟨acc', h1, h2⟩ := tok_wA m (i + 1) (acc ++ [⟨wA, (i : Int)⟩]) r (by simp; omega) (by omega)
    refine ⟨acc', by omega, ?_⟩
    rw [List.replicate_succ, List.cons_append]
    conv => lhs; unfold tokL
    rw [if_neg (by decide), if_neg (by omega), h2, show i + 1 + m = i + (m + 1) by omega]
theorem tok_over : ∀ (m i : Nat) (acc : List S35) (r : List ByteArray), i ≤ 500 → 500 < i + m → tokL (List.replicate m wA ++ r) i acc = ([], 7)
  | 0, i, acc, r, h1, h2 => absurd h2 (by omega)
  | m + 1, i, acc, r, h1, h2 => by
    rw [List.replicate_succ, List.cons_append]
    conv => lhs; unfold tokL
    rw [if_neg (by decide)]
    by_cases h : 500 ≤ i
    · rw [if_pos h]
    · rw [if_neg h]
      exact tok_over m (i + 1) _ r (by omega) (by omega)
theorem tok_last (w : ByteArray) (i : Nat) (acc : List S35) : tokL [w] i acc = if 30 < w.size then ([], 3) else if 500 ≤ i then ([], 7) else (acc ++ [⟨w, (i : Int)⟩], 0) := rfl
theorem tAt_lenA (m : Nat) : ∀ i, (tAt (List.replicate m wA) i).length ≤ 2 * i
  | 0 => by simp [tAt]
  | i + 1 => by
    have ih := tAt_lenA m i
    by_cases h : i < m
    · rw [tAt_succ _ i (by rw [List.length_replicate]; exact h), List.getElem_replicate, List.length_append]
      have : (wA.data.toList ++ [32]).length = 2 := rfl
      omega
    · unfold tAt at *
      rw [List.take_of_length_le (by rw [List.length_replicate]; omega)] at *
      omega

theorem many_end (m long : Nat) (hm : 489 ≤ m ∧ m ≤ 509) (hl : 20 ≤ long ∧ long ≤ 40) (i : Nat) (hi : i = long) :
    Ev (fun k => concordancelaw02_WordMany.l1 k ((m : Int) + 1) (long : Int) (numsOf (bytesM m long)) (i : Int)) true := by
  have hsz := tAt_lenA m m
  have hb : (bytesM m long).length ≤ 2 * m + long := by unfold bytesM; rw [List.length_append, List.length_replicate]; omega
  have e1 : strOfNums (numsOf (bytesM m long)) = ⟨(bytesM m long).toArray⟩ := str_nums _
  have e2 : (⟨(bytesM m long).toArray⟩ : ByteArray).data.toList = bytesM m long := by simp
  have hs2 : (⟨(bytesM m long).toArray⟩ : ByteArray).size ≤ 1000000 := by rw [← size_data, e2]; omega
  have ht := tok_ev ⟨(bytesM m long).toArray⟩ hs2
  rw [e2, words_many m long (by omega)] at ht
  refine Ev.step (fun k => by rw [concordancelaw02_WordMany.l1, e1, wrap_small ((m : Int) + 1 - 1) (by omega)]) (Ev.neg (by omega) (Ev.bind ht ?_))
  by_cases h1 : 500 < m
  · rw [tok_over m 0 [] [wB long] (by omega) (by omega)]
    exact Ev.pos (by omega) (Ev.pos rfl (Ev.neg (by decide) (Ev.pos rfl (Ev.const lives_ok (Ev.ret rfl)))))
  · obtain ⟨acc, ha, hb2⟩ := tok_wA m 0 [] [wB long] rfl (by omega)
    rw [hb2, tok_last, wB_size]
    refine Ev.neg (by omega) ?_
    by_cases h2 : 30 < long
    · rw [if_pos h2]
      exact Ev.pos (by omega) (Ev.pos rfl (Ev.neg (by decide) (Ev.pos rfl (Ev.const lives_ok (Ev.ret rfl)))))
    · rw [if_neg h2]
      refine Ev.neg (by omega) ?_
      by_cases h3 : m = 500
      · rw [if_pos (show 500 ≤ 0 + m by omega)]
        exact Ev.pos (by omega) (Ev.pos rfl (Ev.neg (by decide) (Ev.pos rfl (Ev.const lives_ok (Ev.ret rfl)))))
      · rw [if_neg (show ¬ 500 ≤ 0 + m by omega)]
        have hal : (acc ++ [(⟨wB long, ((0 + m : Nat) : Int)⟩ : S35)]).length = m + 1 := by simp; omega
        have hrd : rd_T35 (acc ++ [(⟨wB long, ((0 + m : Nat) : Int)⟩ : S35)]) ((m : Int) + 1 - 1) = ⟨wB long, ((0 + m : Nat) : Int)⟩ := by
          unfold rd_T35
          rw [show ((m : Int) + 1 - 1).toNat = acc.length by omega, List.getD_eq_getElem?_getD, List.getElem?_append_right (Nat.le_refl _), Nat.sub_self]
          rfl
        refine Ev.neg (by omega) (Ev.pos rfl ?_)
        show Ev (fun n => if ((acc ++ [(⟨wB long, ((0 + m : Nat) : Int)⟩ : S35)]).length : Int) = _ then _ else _) _
        rw [hrd, hal]
        exact Ev.pos (by omega) (Ev.pos (by omega) (Ev.pos (by omega) (Ev.pos (by show ((0 + m : Nat) : Int) = _; omega) (Ev.pos (by show ((wB long).size : Int) = _; rw [wB_size]) (Ev.const lives_ok (Ev.ret rfl))))))
theorem many_l1 (m long : Nat) (hm : 489 ≤ m ∧ m ≤ 509) (hl : 20 ≤ long ∧ long ≤ 40) (d : Nat) : ∀ i : Nat, i + d = long →
    Ev (fun k => concordancelaw02_WordMany.l1 k ((m : Int) + 1) (long : Int) (numsOf (bytesM m i)) (i : Int)) true := by
  induction d with
  | zero =>
    intro i hi
    obtain rfl : i = long := by omega
    exact many_end m i hm hl i rfl
  | succ d ih =>
    intro i hi
    have hg := ih (i + 1) (by omega)
    have hsz := tAt_lenA m m
    have hb : (numsOf (bytesM m i)).length ≤ 2 * m + i := by unfold bytesM; rw [numsOf_length, List.length_append, List.length_replicate]; omega
    have e : numsOf (bytesM m (i + 1)) = numsOf (bytesM m i) ++ [98] := by
      unfold bytesM
      rw [List.replicate_succ', ← List.append_assoc, numsOf_append]; rfl
    rw [e] at hg
    refine Ev.step (fun k => by rw [concordancelaw02_WordMany.l1, wrap_small (i + 1) (by omega)]) (Ev.pos (by omega) (Ev.pos (by omega) ?_))
    exact_mod_cast hg
theorem many_l0 (m long : Nat) (hm : 489 ≤ m ∧ m ≤ 509) (hl : 20 ≤ long ∧ long ≤ 40) (d : Nat) : ∀ i : Nat, i + d = m →
    Ev (fun k => concordancelaw02_WordMany.l0 k ((m : Int) + 1) (long : Int) (numsOf (tAt (List.replicate m wA) i)) ((i : Int) + 1)) true := by
  induction d with
  | zero =>
    intro i hi
    obtain rfl : i = m := by omega
    refine Ev.step (fun k => by rw [concordancelaw02_WordMany.l0]) (Ev.neg (by omega) ?_)
    have := many_l1 i long hm hl long 0 (by omega)
    unfold bytesM at this
    rw [List.replicate_zero, List.append_nil] at this
    exact_mod_cast this
  | succ d ih =>
    intro i hi
    have hg := ih (i + 1) (by omega)
    have hsz := tAt_lenA m i
    have hb : (numsOf (tAt (List.replicate m wA) i)).length ≤ 2 * i := by rw [numsOf_length]; exact hsz
    have e : numsOf (tAt (List.replicate m wA) (i + 1)) = numsOf (tAt (List.replicate m wA) i) ++ [97, 32] := by
      rw [nums_tAt m i (by omega), if_pos (by omega), numsOf_append]; rfl
    rw [e] at hg
    refine Ev.step (fun k => by rw [concordancelaw02_WordMany.l0, wrap_small ((i : Int) + 1 + 1) (by omega)]) (Ev.pos (by omega) ?_)
    refine Ev.som ?_
    refine Ev.pos (show (numsOf (tAt (List.replicate m wA) i)).length + 2 < 140737488355328 by omega) ?_
    exact_mod_cast hg
theorem many_j1 (x y : Int) (hx : 0 ≤ x) (hy : 0 ≤ y) : Ev (fun k => concordancelaw02_WordMany.j1 k x y) true := by
  have e1 : Int.tmod x 21 = x % 21 := Int.tmod_eq_emod_of_nonneg hx
  have e2 : Int.tmod y 21 = y % 21 := Int.tmod_eq_emod_of_nonneg hy
  have hg := many_l0 (489 + (x % 21).toNat) (20 + (y % 21).toNat) (by omega) (by omega) (489 + (x % 21).toNat) 0 (by omega)
  have e3 : ((489 + (x % 21).toNat : Nat) : Int) + 1 = 490 + x % 21 := by omega
  have e4 : ((20 + (y % 21).toNat : Nat) : Int) = 20 + y % 21 := by omega
  rw [e3, e4] at hg
  refine Ev.step (fun k => by rw [concordancelaw02_WordMany.j1, e1, e2, wrap_small (490 + x % 21) (by omega), wrap_small (20 + y % 21) (by omega)]) ?_
  exact hg
theorem many_j0 (x y : Int) (hx : 0 ≤ x) (hy : -9223372036854775808 ≤ y ∧ y ≤ 9223372036854775807) : Ev (fun k => concordancelaw02_WordMany.j0 k x y) true := by
  by_cases h : y < 0
  · exact Ev.step (fun k => by rw [concordancelaw02_WordMany.j0, wrap_small (y + 1) (by omega), wrap_small (-(y + 1)) (by omega)]) (Ev.pos h (many_j1 x _ hx (by omega)))
  · exact Ev.step (fun k => by rw [concordancelaw02_WordMany.j0]) (Ev.neg h (many_j1 x y hx (by omega)))
theorem WordMany : concordancelaw02_WordMany.Pure := by
  intro x y hx hy
  have hx2 : -9223372036854775808 ≤ x ∧ x ≤ 9223372036854775807 := by simpa [Lit.wf, show IntKind.i64.min = -9223372036854775808 by decide] using hx
  have hy2 : -9223372036854775808 ≤ y ∧ y ≤ 9223372036854775807 := by simpa [Lit.wf, show IntKind.i64.min = -9223372036854775808 by decide] using hy
  apply Ev.rounds
  unfold concordancelaw02_WordMany.f
  by_cases h : x < 0
  · rw [wrap_small (x + 1) (by omega), wrap_small (-(x + 1)) (by omega)]
    exact Ev.pos h (many_j0 _ y (by omega) hy2)
  · exact Ev.neg h (many_j0 x y (by omega) hy2)
end Go.Proofs.Ytoephmnkenlmiaa.Pure

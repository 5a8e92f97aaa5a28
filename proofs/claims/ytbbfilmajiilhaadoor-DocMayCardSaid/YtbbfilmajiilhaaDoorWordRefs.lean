import Derived.Test.YtbbfilmajiilhaaDoorWordPlain
import Derived.Test.YtbbfilmajiilhaaDoorRefs
import Derived.Test.YtbbfilmajiilhaaDoorPAllx5
/-! The document's words, as printed: what they tell. -/
set_option linter.unusedVariables false
set_option linter.unusedSimpArgs false
namespace Go.Proofs.YtbbfilmajiilhaaDoor
open Go.RowKit Go.Proofs.YtbbfilmajiilhaaDoor.PAll Go.Proofs.YtbbfilmajiilhaaDoorW.PrintWords Go.Proofs.YtbbfilmajiilhaaDoorW.PrintLast

theorem Ev.const {α β : Type} {o : Option α} {a : α} {f : Nat → α → Option β} {r : β} (h : o = some a) (k : Ev (fun n => f n a) r) : Ev (fun n => o.bind (f n)) r := by subst h; exact k
theorem rd_nat (l : List Int) (i : Nat) (h : i < l.length) : rd l i = l[i] := by unfold rd; simp; rw [List.getElem?_eq_getElem h]; rfl
theorem rdS_nat (l : List ByteArray) (i : Nat) (h : i < l.length) : rdOf ByteArray.empty l i = l[i] := by unfold rdOf; simp; rw [List.getElem?_eq_getElem h]; rfl

theorem rfold_f (c : Int) : concordanceref01_Fold.f c = some (fold c) := by
  unfold concordanceref01_Fold.f fold
  repeat' split
  all_goals first | rfl | (exfalso; omega) | (rw [wrap_small _ (by omega)]) | skip
theorem rletter_f (c : Int) : concordanceref01_Letter.f c = some (letterB c) := by
  unfold concordanceref01_Letter.f letterB
  repeat' split
  all_goals
    congr 1
    rw [Bool.eq_iff_iff]
    simp
    try omega
theorem rin_f (c : Int) : concordanceref02_in.f c = some (inB c) := by
  unfold concordanceref02_in.f
  rw [rletter_f, Option.bind_some]
  unfold inB digitB
  cases letterB c
  · rw [if_neg (by decide)]
    by_cases h : c ≥ 48
    · rw [if_pos h]; congr 1; rw [Bool.eq_iff_iff]; simp; omega
    · rw [if_neg h]; congr 1; rw [Bool.eq_iff_iff]; simp; omega
  · rfl

def rest (outs : List ByteArray) (own l : List Int) : List ByteArray := (stepW (l.foldl stepW (outs, own)) 32).1
theorem rest_nil (outs : List ByteArray) (own : List Int) : rest outs own [] = if 0 < own.length then outs ++ [strOf own] else outs := by
  unfold rest; rw [List.foldl_nil, stepW_out _ 32 inB_32]
theorem rest_in (outs : List ByteArray) (own l : List Int) (c : Int) (h : inB c = true) : rest outs own (c :: l) = rest outs (own ++ [fold c]) l := by
  unfold rest; rw [List.foldl_cons]; unfold stepW; rw [if_pos h]
theorem rest_out (outs : List ByteArray) (own l : List Int) (c : Int) (h : inB c = false) : rest outs own (c :: l) = rest (if 0 < own.length then outs ++ [strOf own] else outs) [] l := by
  unfold rest; rw [List.foldl_cons, stepW_out _ c h]

theorem rwords_loop (l : List Int) (hl : l.length ≤ 1000000000) (d : Nat) : ∀ i : Nat, i + d = l.length →
    (∀ (outs : List ByteArray) (own : List Int), outs.length + own.length ≤ i → (0 < own.length ∨ ∃ h : i < l.length, inB l[i] = true) → Ev (fun k => concordanceref02_Words.l1 k l outs (i : Int) own) (rest outs own (l.drop i))) ∧
    (∀ outs : List ByteArray, outs.length ≤ i → Ev (fun k => concordanceref02_Words.l0 k l outs (i : Int)) (rest outs [] (l.drop i))) := by
  induction d with
  | zero =>
    intro i hi
    have e : l.drop i = [] := List.drop_eq_nil_of_le (by omega)
    rw [e]
    refine ⟨fun outs own ho hc => ?_, fun outs ho => ?_⟩
    · have hp : 0 < own.length := by rcases hc with h | ⟨h, _⟩ <;> omega
      rw [rest_nil, if_pos hp]
      refine Ev.step (fun k => by rw [concordanceref02_Words.l1, wrap_small (i + 1) (by omega)]) (Ev.neg (by omega) ?_)
      refine Ev.bind (rtext_ev own (by omega)) (Ev.pos (by omega) ?_)
      refine Ev.step (fun k => by rw [concordanceref02_Words.l0]) ?_
      exact Ev.neg (show ¬ ((i : Int) + 1 < (l.length : Int)) by omega) (Ev.ret rfl)
    · rw [rest_nil, if_neg (by simp)]
      exact Ev.step (fun k => by rw [concordanceref02_Words.l0]) (Ev.neg (by omega) (Ev.ret rfl))
  | succ d ih =>
    intro i hi
    obtain ⟨g1, g0⟩ := ih (i + 1) (by omega)
    have e : l.drop i = l[i] :: l.drop (i + 1) := List.drop_eq_getElem_cons (by omega)
    have hr : rd l i = l[i] := rd_nat l i (by omega)
    have A : ∀ (outs : List ByteArray) (own : List Int), outs.length + own.length ≤ i → (0 < own.length ∨ ∃ h : i < l.length, inB l[i] = true) → Ev (fun k => concordanceref02_Words.l1 k l outs (i : Int) own) (rest outs own (l.drop i)) := by
      intro outs own ho hc
      rw [e]
      refine Ev.step (fun k => by rw [concordanceref02_Words.l1, hr, rin_f, rfold_f, Option.bind_some, Option.bind_some, wrap_small (i + 1) (by omega)]) (Ev.pos (by omega) (Ev.pos (by omega) ?_))
      cases hb : inB l[i] with
      | true =>
        rw [rest_in _ _ _ _ hb]
        refine Ev.pos rfl (Ev.pos (by omega) ?_)
        have := g1 outs (own ++ [fold l[i]]) (by simp; omega) (.inl (by simp))
        exact_mod_cast this
      | false =>
        have hp : 0 < own.length := by
          rcases hc with h | ⟨_, h⟩
          · exact h
          · rw [hb] at h; cases h
        rw [rest_out _ _ _ _ hb, if_pos hp]
        refine Ev.neg (by decide) ?_
        refine Ev.bind (rtext_ev own (by omega)) (Ev.pos (by omega) ?_)
        have := g0 (outs ++ [strOf own]) (by simp; omega)
        exact_mod_cast this
    refine ⟨A, fun outs ho => ?_⟩
    refine Ev.step (fun k => by rw [concordanceref02_Words.l0, hr, rin_f, Option.bind_some, wrap_small (i + 1) (by omega)]) (Ev.pos (by omega) (Ev.pos (by omega) ?_))
    cases hb : inB l[i] with
    | true => exact Ev.pos rfl (A outs [] (by simp; omega) (.inr ⟨by omega, hb⟩))
    | false =>
      rw [e, rest_out _ _ _ _ hb, if_neg (by simp)]
      refine Ev.neg (by decide) ?_
      have := g0 outs (by omega)
      exact_mod_cast this
theorem rwords_ev (a : ByteArray) (h : a.size ≤ 1000000000) : Ev (fun k => concordanceref02_Words.f k a) (wordsOf (signs a.data.toList)) := by
  unfold concordanceref02_Words.f
  have hl := signs_length a.data.toList
  rw [size_data] at hl
  refine Ev.bind (rsigns_ev a (by omega)) ?_
  exact (rwords_loop (signs a.data.toList) (by omega) (signs a.data.toList).length 0 (by omega)).2 [] (by simp)

end Go.Proofs.YtbbfilmajiilhaaDoor

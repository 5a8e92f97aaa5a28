import Derived.Test.YtoephmnkenlmiaaWordPlain
import Derived.Test.YtoephmnkenlmiaaRefs
import Derived.Test.YtoephmnkenlmiaaPAllx4
import Derived.Test.YtoephmnkenlmiaaPAllx5
import Derived.Test.YtoephmnkenlmiaaPAllx5
/-! The document's words, as printed: what they tell. -/
namespace Go.Proofs.Ytoephmnkenlmiaa
open Go.RowKit Go.Proofs.Ytoephmnkenlmiaa.PAll Go.Proofs.YtoephmnkenlmiaaW.PrintWords Go.Proofs.YtoephmnkenlmiaaW.PrintLast

theorem Ev.som {α β : Type} {a : α} {f : Nat → α → Option β} {r : β} (k : Ev (fun n => f n a) r) : Ev (fun n => (some a).bind (f n)) r := k
theorem Ev.const {α β : Type} {o : Option α} {a : α} {f : Nat → α → Option β} {r : β} (h : o = some a) (k : Ev (fun n => f n a) r) : Ev (fun n => o.bind (f n)) r := by subst h; exact k
theorem rd_nat (l : List Int) (i : Nat) (h : i < l.length) : rd l i = l[i] := by unfold rd; simp; rw [List.getElem?_eq_getElem h]; rfl
theorem rdS_nat (l : List ByteArray) (i : Nat) (h : i < l.length) : rdOf ByteArray.empty l i = l[i] := by unfold rdOf; simp; rw [List.getElem?_eq_getElem h]; rfl

theorem rfold_f (c : Int) : concordanceref01_Fold.f c = some (fold c) := by
  unfold concordanceref01_Fold.f fold
  repeat' split
  all_goals first | rfl | (exfalso; omega) | (rw [wrap_small _ (by omega)]) | skip
theorem rletter_f (c : Int) : concordanceref01_Letter.f c = some (letterB c) := by
  unfold concordanceref01_Letter.f letterB
  repeat' split
  all_goals
    congr 1
    rw [Bool.eq_iff_iff]
    simp
    try omega
theorem rin_f (c : Int) : concordanceref02_in.f c = some (inB c) := by
  unfold concordanceref02_in.f
  rw [rletter_f, Option.bind_some]
  unfold inB digitB
  cases letterB c
  · rw [if_neg (by decide)]
    by_cases h : c ≥ 48
    · rw [if_pos h]; congr 1; rw [Bool.eq_iff_iff]; simp; omega
    · rw [if_neg h]; congr 1; rw [Bool.eq_iff_iff]; simp; omega
  · rfl

theorem foldT_loop (l : List Int) (hl : l.length ≤ 1000000000000) (d : Nat) : ∀ i : Nat, i + d = l.length →
    Ev (fun k => concordanceref01_FoldText.l0 k ((l.take i).map fold ++ l.drop i) (i : Int)) (strOf (l.map fold)) := by
  induction d with
  | zero =>
    intro i hi
    have e : (l.take i).map fold ++ l.drop i = l.map fold := by rw [List.take_of_length_le (by omega), List.drop_eq_nil_of_le (by omega), List.append_nil]
    rw [e]
    refine Ev.step (fun k => by rw [concordanceref01_FoldText.l0]) (Ev.neg (by rw [List.length_map]; omega) ?_)
    exact Ev.bind (rtext_ev (l.map fold) (by rw [List.length_map]; omega)) (Ev.ret rfl)
  | succ d ih =>
    intro i hi
    have hg := ih (i + 1) (by omega)
    have hlen : ((l.take i).map fold ++ l.drop i).length = l.length := by rw [List.length_append, List.length_map, List.length_take, List.length_drop]; omega
    have hli : ((l.take i).map fold).length = i := by rw [List.length_map, List.length_take]; omega
    have hrd : rd ((l.take i).map fold ++ l.drop i) (i : Int) = l[i] := by
      rw [rd_nat _ i (by omega), List.getElem_append_right (by omega)]
      simp only [hli, Nat.sub_self, List.getElem_drop, Nat.add_zero]
    have hset : ((l.take i).map fold ++ l.drop i).set i (fold l[i]) = (l.take (i + 1)).map fold ++ l.drop (i + 1) := by
      rw [List.set_append_right _ _ (by omega), hli, Nat.sub_self, List.drop_eq_getElem_cons (show i < l.length by omega), List.set_cons_zero, List.take_succ_eq_append_getElem (show i < l.length by omega), List.map_append, List.append_assoc]
      rfl
    refine Ev.step (fun k => by rw [concordanceref01_FoldText.l0, hrd, rfold_f, Option.bind_some, Int.toNat_natCast, hset, wrap_small (i + 1) (by omega)]) ?_
    exact Ev.pos (by omega) (Ev.pos (by omega) (by exact_mod_cast hg))
theorem foldT_ev (a : ByteArray) (h : a.size ≤ 1000000000000) : Ev (fun k => concordanceref01_FoldText.f k a) (strOf ((signs a.data.toList).map fold)) := by
  unfold concordanceref01_FoldText.f
  have hl := signs_length a.data.toList
  rw [size_data] at hl
  refine Ev.bind (rsigns_ev a h) ?_
  exact foldT_loop (signs a.data.toList) (by omega) (signs a.data.toList).length 0 (by omega)

theorem same_loop (a : List ByteArray) (hl : a.length ≤ 1000000000000) (d : Nat) : ∀ i : Nat, i + d = a.length → Ev (fun k => concordanceref02_Same.l0 k a a (i : Int)) true := by
  induction d with
  | zero =>
    intro i hi
    exact Ev.step (fun k => by rw [concordanceref02_Same.l0]) (Ev.neg (by omega) (Ev.ret rfl))
  | succ d ih =>
    intro i hi
    have hg := ih (i + 1) (by omega)
    refine Ev.step (fun k => by rw [concordanceref02_Same.l0, wrap_small (i + 1) (by omega)]) ?_
    exact Ev.pos (by omega) (Ev.pos (by omega) (Ev.pos (by omega) (Ev.pos rfl (by exact_mod_cast hg))))
theorem same_ev (a b : List ByteArray) (h : a = b) (hl : a.length ≤ 1000000000000) : Ev (fun k => concordanceref02_Same.f k a b) true := by
  subst h
  unfold concordanceref02_Same.f
  exact Ev.pos rfl (same_loop a hl a.length 0 (by omega))

/-- The words of what is left, some being whole, and one under way. -/
def rest (outs : List ByteArray) (own l : List Int) : List ByteArray := (stepW (l.foldl stepW (outs, own)) 32).1
theorem rest_nil (outs : List ByteArray) (own : List Int) : rest outs own [] = if 0 < own.length then outs ++ [strOf own] else outs := by
  unfold rest; rw [List.foldl_nil, stepW_out _ 32 inB_32]
theorem rest_in (outs : List ByteArray) (own l : List Int) (c : Int) (h : inB c = true) : rest outs own (c :: l) = rest outs (own ++ [fold c]) l := by
  unfold rest; rw [List.foldl_cons]; unfold stepW; rw [if_pos h]
theorem rest_out (outs : List ByteArray) (own l : List Int) (c : Int) (h : inB c = false) : rest outs own (c :: l) = rest (if 0 < own.length then outs ++ [strOf own] else outs) [] l := by
  unfold rest; rw [List.foldl_cons, stepW_out _ c h]

theorem rwords_loop (l : List Int) (hl : l.length ≤ 1000000000) (d : Nat) : ∀ i : Nat, i + d = l.length →
    (∀ (outs : List ByteArray) (own : List Int), outs.length + own.length ≤ i → (0 < own.length ∨ ∃ h : i < l.length, inB l[i] = true) → Ev (fun k => concordanceref02_Words.l1 k l outs (i : Int) own) (rest outs own (l.drop i))) ∧
    (∀ outs : List ByteArray, outs.length ≤ i → Ev (fun k => concordanceref02_Words.l0 k l outs (i : Int)) (rest outs [] (l.drop i))) := by
  induction d with
  | zero =>
    intro i hi
    have e : l.drop i = [] := List.drop_eq_nil_of_le (by omega)
    rw [e]
    refine ⟨fun outs own ho hc => ?_, fun outs ho => ?_⟩
    · have hp : 0 < own.length := by rcases hc with h | ⟨h, _⟩ <;> omega
      rw [rest_nil, if_pos hp]
      refine Ev.step (fun k => by rw [concordanceref02_Words.l1, wrap_small (i + 1) (by omega)]) (Ev.neg (by omega) ?_)
      refine Ev.bind (rtext_ev own (by omega)) (Ev.pos (by omega) ?_)
      refine Ev.step (fun k => by rw [concordanceref02_Words.l0]) ?_
      exact Ev.neg (show ¬ ((i : Int) + 1 < (l.length : Int)) by omega) (Ev.ret rfl)
    · rw [rest_nil, if_neg (by simp)]
      exact Ev.step (fun k => by rw [concordanceref02_Words.l0]) (Ev.neg (by omega) (Ev.ret rfl))
  | succ d ih =>
    intro i hi
    obtain ⟨g1, g0⟩ := ih (i + 1) (by omega)
    have e : l.drop i = l[i] :: l.drop (i + 1) := List.drop_eq_getElem_cons (by omega)
    have hr : rd l i = l[i] := rd_nat l i (by omega)
    have A : ∀ (outs : List ByteArray) (own : List Int), outs.length + own.length ≤ i → (0 < own.length ∨ ∃ h : i < l.length, inB l[i] = true) → Ev (fun k => concordanceref02_Words.l1 k l outs (i : Int) own) (rest outs own (l.drop i)) := by
      intro outs own ho hc
      rw [e]
      refine Ev.step (fun k => by rw [concordanceref02_Words.l1, hr, rin_f, rfold_f, Option.bind_some, Option.bind_some, wrap_small (i + 1) (by omega)]) (Ev.pos (by omega) (Ev.pos (by omega) ?_))
      cases hb : inB l[i] with
      | true =>
        rw [rest_in _ _ _ _ hb]
        refine Ev.pos rfl (Ev.pos (by omega) ?_)
        have := g1 outs (own ++ [fold l[i]]) (by simp; omega) (.inl (by simp))
        exact_mod_cast this
      | false =>
        have hp : 0 < own.length := by
          rcases hc with h | ⟨_, h⟩
          · exact h
          · rw [hb] at h; cases h
        rw [rest_out _ _ _ _ hb, if_pos hp]
        refine Ev.neg (by decide) ?_
        refine Ev.bind (rtext_ev own (by omega)) (Ev.pos (by omega) ?_)
        have := g0 (outs ++ [strOf own]) (by simp; omega)
        exact_mod_cast this
    refine ⟨A, fun outs ho => ?_⟩
    refine Ev.step (fun k => by rw [concordanceref02_Words.l0, hr, rin_f, Option.bind_some, wrap_small (i + 1) (by omega)]) (Ev.pos (by omega) (Ev.pos (by omega) ?_))
    cases hb : inB l[i] with
    | true => exact Ev.pos rfl (A outs [] (by simp; omega) (.inr ⟨by omega, hb⟩))
    | false =>
      rw [e, rest_out _ _ _ _ hb, if_neg (by simp)]
      refine Ev.neg (by decide) ?_
      have := g0 outs (by omega)
      exact_mod_cast this
theorem rwords_ev (a : ByteArray) (h : a.size ≤ 1000000000) : Ev (fun k => concordanceref02_Words.f k a) (wordsOf (signs a.data.toList)) := by
  unfold concordanceref02_Words.f
  have hl := signs_length a.data.toList
  rw [size_data] at hl
  refine Ev.bind (rsigns_ev a (by omega)) ?_
  exact (rwords_loop (signs a.data.toList) (by omega) (signs a.data.toList).length 0 (by omega)).2 [] (by simp)
theorem words_len (a : List UInt8) : (wordsOf (signs a)).length ≤ a.length + 1 := by
  have h1 := stAt_len (signs a) (signs a).length
  rw [stAt_all] at h1
  have h2 := stepW_len ((signs a).foldl stepW ([], [])) 32
  have h3 := signs_length a
  unfold wordsOf
  omega
end Go.Proofs.Ytoephmnkenlmiaa

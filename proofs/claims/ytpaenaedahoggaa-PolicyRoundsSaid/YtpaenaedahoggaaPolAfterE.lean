import Derived.Test.YtpaenaedahoggaaAfter
import Derived.Test.YtpaenaedahoggaaPAllx3
import Derived.Test.YtpaenaedahoggaaPAllx2
/-! The document's sizes behind a merge; sums that stay. -/
namespace Go.Proofs.Ytpaenaedahoggaa
open Go.RowKit Go.Proofs.Ytpaenaedahoggaa.PAll Go.Proofs.YtpaenaedahoggaaW.PrintWords Go.Proofs.YtpaenaedahoggaaW.PrintLast

theorem same_loop (a b : List Int) (hab : a.length = b.length) (hl : a.length ≤ 1000000000000000) (d : Nat) : ∀ i : Nat, i + d = a.length →
    Ev (fun k => concordanceref01_Same.l0 k a b (i : Int)) (decide (a.drop i = b.drop i)) := by
  induction d with
  | zero =>
    intro i hi
    refine Ev.step (fun k => by rw [concordanceref01_Same.l0]) (Ev.neg (by omega) (Ev.ret ?_))
    rw [List.drop_eq_nil_of_le (by omega), List.drop_eq_nil_of_le (by omega)]; rfl
  | succ d ih =>
    intro i hi
    have ha : rd a i = a[i] := by unfold rd; simp; rw [List.getElem?_eq_getElem (by omega)]; rfl
    have hb : rd b i = b[i] := by unfold rd; simp; rw [List.getElem?_eq_getElem (by omega)]; rfl
    have e : (a.drop i = b.drop i) ↔ (rd a i = rd b i ∧ a.drop (i + 1) = b.drop (i + 1)) := by
      rw [List.drop_eq_getElem_cons (show i < a.length by omega), List.drop_eq_getElem_cons (show i < b.length by omega), ha, hb]
      simp only [List.cons.injEq]
    refine Ev.step (fun k => by rw [concordanceref01_Same.l0]) (Ev.pos (by omega) (Ev.pos (by omega) (Ev.pos (by omega) ?_)))
    by_cases h : rd a i = rd b i
    · refine Ev.pos h ?_
      rw [wrap_small _ (by omega), show ((i : Int) + 1) = ((i + 1 : Nat) : Int) by omega, decide_eq_decide.2 (e.trans (and_iff_right h))]
      exact ih (i + 1) (by omega)
    · refine Ev.neg h (Ev.ret ?_)
      exact (decide_eq_false (fun h' => h (e.1 h').1)).symm
theorem same_ev (a b : List Int) (hl : a.length ≤ 1000000000000000) : Ev (fun k => concordanceref01_Same.f k a b) (decide (a = b)) := by
  unfold concordanceref01_Same.f
  by_cases h : a.length = b.length
  · exact Ev.pos (by omega) (same_loop a b h hl a.length 0 (by omega))
  · refine Ev.neg (by omega) (Ev.ret ?_)
    symm
    simp only [decide_eq_false_iff_not]
    rintro rfl
    exact h rfl

section
variable (l : List Int) (a b : Int) (hl : Fits l)
include hl
theorem refA3 (d : Nat) : ∀ (i : Nat) (acc : List Int) (dn : Bool), i + d = l.length → acc.length ≤ i + 1 → (fromP l a = toP l a b ∨ toP l a b ≤ i) →
    Ev (fun k => concordanceref17_After.l0 k l a b acc dn (i : Int)) (acc ++ l.drop i) := by
  have hlen := hl.1
  induction d with
  | zero =>
    intro i acc dn hi ha ho
    refine Ev.step (fun k => by rw [concordanceref17_After.l0]) (Ev.neg (by omega) (Ev.ret ?_))
    rw [List.drop_eq_nil_of_le (by omega), List.append_nil]
  | succ d ih =>
    intro i acc dn hi ha ho
    have hin := in_run l a b i (by omega)
    have hg := ih (i + 1) (acc ++ [l[i]]) dn (by omega) (by simp; omega) (by omega)
    rw [List.append_assoc, List.singleton_append, ← List.drop_eq_getElem_cons (show i < l.length by omega)] at hg
    have hj : ∀ c : Bool, c = true → Ev (fun k => concordanceref17_After.j1 k l a b acc dn (i : Int) c) (acc ++ l.drop i) := by
      intro c hc
      refine Ev.step (fun k => by rw [concordanceref17_After.j1, rd_nat l i (by omega), wrap_small (i + 1) (by omega)]) (Ev.pos hc (Ev.pos (by omega) (Ev.pos (by omega) (Ev.pos (by omega) ?_))))
      exact_mod_cast hg
    refine Ev.step (fun k => by rw [concordanceref17_After.l0]) (Ev.pos (by omega) ?_)
    by_cases hx : (i : Int) < a
    · exact Ev.pos hx (hj _ rfl)
    · refine Ev.neg hx (hj _ ?_)
      refine decide_eq_true ?_
      have hni : ¬ (fromP l a ≤ i ∧ i < toP l a b) := by omega
      by_cases hb : (i : Int) < b
      · exact absurd (hin.mp ⟨by omega, hb⟩) hni
      · omega
theorem refA2 (d : Nat) : ∀ (i : Nat) (acc : List Int), i + d = toP l a b → acc.length ≤ i + 1 → fromP l a < i →
    Ev (fun k => concordanceref17_After.l0 k l a b acc true (i : Int)) (acc ++ l.drop (toP l a b)) := by
  have hlen := hl.1
  have htl := toP_le l a b
  induction d with
  | zero =>
    intro i acc hi ha ho
    have := refA3 l a b hl (l.length - i) i acc true (by omega) ha (.inr (by omega))
    rw [show toP l a b = i by omega]
    exact this
  | succ d ih =>
    intro i acc hi ha ho
    have hin := (in_run l a b i (by omega)).mpr ⟨by omega, by omega⟩
    have hg := ih (i + 1) acc (by omega) (by omega) (by omega)
    refine Ev.step (fun k => by rw [concordanceref17_After.l0]) (Ev.pos (by omega) (Ev.neg (by omega) ?_))
    refine Ev.step (fun k => by rw [concordanceref17_After.j1, wrap_small (i + 1) (by omega)]) (Ev.neg (by simp; omega) (Ev.pos rfl ?_))
    exact_mod_cast hg
theorem refA1 (hft : fromP l a < toP l a b) (d : Nat) : ∀ (i : Nat) (acc : List Int), i + d = fromP l a → acc.length ≤ i →
    Ev (fun k => concordanceref17_After.l0 k l a b acc false (i : Int)) (acc ++ ((l.take (fromP l a)).drop i ++ ([wIn l a b] ++ l.drop (toP l a b)))) := by
  have hlen := hl.1
  have htl := toP_le l a b
  induction d with
  | zero =>
    intro i acc hi ha
    have hin := (in_run l a b i (by omega)).mpr ⟨by omega, by omega⟩
    have hg := refA2 l a b hl (toP l a b - (i + 1)) (i + 1) (acc ++ [wIn l a b]) (by omega) (by simp; omega) (by omega)
    rw [List.append_assoc] at hg
    rw [List.drop_eq_nil_of_le (by rw [List.length_take]; omega), List.nil_append]
    refine Ev.step (fun k => by rw [concordanceref17_After.l0]) (Ev.pos (by omega) (Ev.neg (by omega) ?_))
    refine Ev.step (fun k => by rw [concordanceref17_After.j1, wrap_small (i + 1) (by omega)]) (Ev.neg (by simp; omega) (Ev.neg (by simp) (Ev.bind (refW_ev l a b hl) ?_)))
    refine Ev.pos (by omega) ?_
    exact_mod_cast hg
  | succ d ih =>
    intro i acc hi ha
    have hg := ih (i + 1) (acc ++ [l[i]]) (by omega) (by simp; omega)
    have hin := in_run l a b i (by omega)
    have e : (l.take (fromP l a)).drop i = l[i] :: (l.take (fromP l a)).drop (i + 1) := by
      rw [List.drop_eq_getElem_cons (by rw [List.length_take]; omega), List.getElem_take]
    rw [e]
    rw [List.append_assoc, List.singleton_append] at hg
    refine Ev.step (fun k => by rw [concordanceref17_After.l0]) (Ev.pos (by omega) (Ev.pos ?_ ?_))
    · unfold fromP at hi; omega
    · refine Ev.step (fun k => by rw [concordanceref17_After.j1, rd_nat l i (by omega), wrap_small (i + 1) (by omega)]) (Ev.pos rfl (Ev.pos (by omega) (Ev.pos (by omega) (Ev.pos (by omega) ?_))))
      exact_mod_cast hg
theorem refA_ev : Ev (fun k => concordanceref17_After.f k l a b) (afterM l a b) := by
  unfold concordanceref17_After.f afterM
  have h1 := from_le_to l a b
  have h2 := fromP_le l a
  by_cases h : fromP l a = toP l a b
  · rw [if_pos h]
    have := refA3 l a b hl l.length 0 [] false (by omega) (by simp) (.inl h)
    simpa using this
  · rw [if_neg h]
    have := refA1 l a b hl (by omega) (fromP l a) 0 [] (by omega) (by simp)
    simpa using this
end

/-- Sizes that may be merged on and on. -/
def Small (l : List Int) : Prop := l.length ≤ 1000 ∧ (∀ x ∈ l, 0 ≤ x) ∧ l.sum ≤ 1000000
instance (l : List Int) : Decidable (Small l) := by unfold Small; infer_instance
theorem sum_nonneg : ∀ l : List Int, (∀ x ∈ l, 0 ≤ x) → 0 ≤ l.sum
  | [], _ => by simp
  | x :: l, h => by
    have h1 := h x (by simp)
    have h2 := sum_nonneg l (fun y hy => h y (by simp [hy]))
    rw [List.sum_cons]; omega
theorem le_sum : ∀ l : List Int, (∀ x ∈ l, 0 ≤ x) → ∀ x ∈ l, x ≤ l.sum
  | [], _, x, hx => by cases hx
  | y :: l, h, x, hx => by
    have h1 := h y (by simp)
    have h2 := sum_nonneg l (fun z hz => h z (by simp [hz]))
    rw [List.sum_cons]
    rcases List.mem_cons.mp hx with rfl | hx
    · omega
    · have := le_sum l (fun z hz => h z (by simp [hz])) x hx
      omega
theorem Small.fits {l : List Int} (h : Small l) : Fits l := ⟨by have := h.1; omega, fun x hx => ⟨h.2.1 x hx, by have := le_sum l h.2.1 x hx; have := h.2.2; omega⟩⟩
theorem few_sum : ∀ l : List Int, (∀ x ∈ l, 0 ≤ x ∧ x ≤ 99) → l.sum ≤ 99 * l.length
  | [], _ => by simp
  | x :: l, h => by
    have h1 := h x (by simp)
    have h2 := few_sum l (fun y hy => h y (by simp [hy]))
    rw [List.sum_cons, List.length_cons]; omega
theorem Few.small {l : List Int} (h : Few l) : Small l := ⟨by have := h.1; omega, fun x hx => (h.2 x hx).1, by have := few_sum l h.2; have := h.1; omega⟩
theorem pre_drop (l : List Int) (k : Nat) : pre l k + (l.drop k).sum = l.sum := by
  unfold pre
  rw [← List.sum_append, List.take_append_drop]
theorem pre_mono (l : List Int) (h : ∀ x ∈ l, 0 ≤ x) (i j : Nat) (hij : i ≤ j) : pre l i ≤ pre l j := by
  unfold pre
  have e := (List.take_append_drop i (l.take j)).symm
  rw [List.take_take, Nat.min_eq_left hij] at e
  rw [e, List.sum_append]
  have := sum_nonneg ((l.take j).drop i) (fun x hx => h x (List.mem_of_mem_take (List.mem_of_mem_drop hx)))
  omega
theorem after_sum (l : List Int) (a b : Int) : (afterM l a b).sum = l.sum := by
  unfold afterM
  by_cases h : fromP l a = toP l a b
  · rw [if_pos h]
  · rw [if_neg h]
    have := pre_drop l (toP l a b)
    rw [List.sum_append, List.sum_append]
    unfold wIn
    show pre l (fromP l a) + _ = _
    simp only [List.sum_cons, List.sum_nil]
    omega
theorem after_length (l : List Int) (a b : Int) (h : fromP l a < toP l a b) : (afterM l a b).length + (toP l a b - fromP l a) = l.length + 1 := by
  have := toP_le l a b
  unfold afterM
  rw [if_neg (by omega)]
  simp only [List.length_append, List.length_take, List.length_drop, List.length_cons, List.length_nil]
  omega
theorem Small.after {l : List Int} (h : Small l) (a b : Int) : Small (afterM l a b) := by
  have hft := from_le_to l a b
  refine ⟨?_, ?_, by rw [after_sum]; exact h.2.2⟩
  · by_cases hq : fromP l a = toP l a b
    · unfold afterM; rw [if_pos hq]; exact h.1
    · have := after_length l a b (by omega)
      have := h.1
      omega
  · intro x hx
    unfold afterM at hx
    by_cases hq : fromP l a = toP l a b
    · rw [if_pos hq] at hx; exact h.2.1 x hx
    · rw [if_neg hq] at hx
      rcases List.mem_append.mp hx with hx | hx
      · exact h.2.1 x (List.mem_of_mem_take hx)
      · rcases List.mem_append.mp hx with hx | hx
        · obtain rfl := List.mem_singleton.mp hx
          have := pre_mono l h.2.1 _ _ hft
          unfold wIn; omega
        · exact h.2.1 x (List.mem_of_mem_drop hx)
theorem wIn_all (l : List Int) (h : l.length ≤ 20) : wIn l 0 20 = l.sum := by
  have e1 : fromP l 0 = 0 := by unfold fromP; omega
  have e2 : toP l 0 20 = l.length := by unfold toP; rw [e1]; omega
  unfold wIn
  rw [e1, e2, pre_past l l.length (Nat.le_refl _), pre_zero]
  omega
theorem pick_run (l : List Int) (a b : Int) (h : ¬ (l.length : Int) ≤ max a 1) :
    fromP l (pickM l a b).1 = best l (wide l.length b) (l.length - wide l.length b + 1) ∧ toP l (pickM l a b).1 (pickM l a b).2.1 = best l (wide l.length b) (l.length - wide l.length b + 1) + wide l.length b ∧ 2 ≤ wide l.length b := by
  have hw := wide_le l.length b
  have hw2 : 2 ≤ wide l.length b := by unfold wide; omega
  have hb := best_lt l (wide l.length b) (l.length - wide l.length b + 1) (by omega)
  unfold pickM
  rw [if_neg h]
  have e1 : fromP l (best l (wide l.length b) (l.length - wide l.length b + 1) : Int) = best l (wide l.length b) (l.length - wide l.length b + 1) := by unfold fromP; omega
  refine ⟨e1, ?_, hw2⟩
  show toP l (best l (wide l.length b) (l.length - wide l.length b + 1) : Int) _ = _
  unfold toP
  rw [e1]
  show (min (max ((best l (wide l.length b) (l.length - wide l.length b + 1) : Int) + (wide l.length b : Int)) _) _).toNat = _
  omega
end Go.Proofs.Ytpaenaedahoggaa

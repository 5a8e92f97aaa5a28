import Derived.Test.YtpaenaedahoggaaPolEv
import Derived.Test.YtpaenaedahoggaaPAllx2
import Derived.Test.YtpaenaedahoggaaPAllx2
import Derived.Test.YtpaenaedahoggaaPAllx2
/-! What the document's answers for policy are, in plain words. -/
namespace Go.Proofs.Ytpaenaedahoggaa
open Go.RowKit Go.Proofs.Ytpaenaedahoggaa.PAll Go.Proofs.YtpaenaedahoggaaW.PrintWords Go.Proofs.YtpaenaedahoggaaW.PrintLast

/-- Few small sizes. -/
def Few (g : List Int) : Prop := g.length ≤ 20 ∧ ∀ x ∈ g, 0 ≤ x ∧ x ≤ 99
theorem Few.fits {g : List Int} (h : Few g) : Fits g := ⟨by have := h.1; omega, fun x hx => by have := h.2 x hx; omega⟩

theorem good_loop (l : List Int) (hlen : l.length ≤ maxLen) (hwf : ∀ x ∈ l, (Lit.int .i64 x).wf = true) (d : Nat) : ∀ (i : Nat) (out : List Int), i + d = 20 → out.length ≤ i → (∀ x ∈ out, 0 ≤ x ∧ x ≤ 99) →
    ∃ g, Few g ∧ Ev (fun k => concordanceref17_Good.l0 k l 20 out (i : Int)) g := by
  have hl2 : l.length ≤ 9223372036854775807 := Nat.le_trans hlen (by decide)
  induction d with
  | zero =>
    intro i out hi ho hx
    refine ⟨out, ⟨by omega, hx⟩, ?_⟩
    refine Ev.step (fun k => by rw [concordanceref17_Good.l0]) ?_
    have hj : ∀ b, b = false → Ev (fun k => concordanceref17_Good.j1 k l 20 out (i : Int) b) out := fun b hb => Ev.step (fun k => by rw [concordanceref17_Good.j1]) (Ev.neg (by rw [hb]; decide) (Ev.ret rfl))
    by_cases h : (i : Int) < (l.length : Int)
    · exact Ev.pos h (hj _ (by simp; omega))
    · exact Ev.neg h (hj _ rfl)
  | succ d ih =>
    intro i out hi ho hx
    by_cases h : i < l.length
    · have hr : rd l (i : Int) = l[i] := rd_nat l i h
      have hw := hwf l[i] (List.getElem_mem h)
      have hb : -9223372036854775808 ≤ l[i] ∧ l[i] ≤ 9223372036854775807 := by simpa [Lit.wf, show IntKind.i64.min = -9223372036854775808 by decide] using hw
      by_cases hn : l[i] < 0
      · obtain ⟨g, hg, he⟩ := ih (i + 1) (out ++ [Int.tmod (-(l[i] + 1)) 100]) (by omega) (by simp; omega) (by
          intro x hm
          rcases List.mem_append.mp hm with hm | hm
          · exact hx x hm
          · obtain rfl := List.mem_singleton.mp hm
            rw [Int.tmod_eq_emod_of_nonneg (by omega)]
            omega)
        refine ⟨g, hg, ?_⟩
        refine Ev.step (fun k => by rw [concordanceref17_Good.l0]) (Ev.pos (by omega) ?_)
        refine Ev.step (fun k => by rw [concordanceref17_Good.j1, hr, wrap_small (l[i] + 1) (by omega), wrap_small (-(l[i] + 1)) (by omega), wrap_small (i + 1) (by omega)]) ?_
        exact Ev.pos (by simp; omega) (Ev.pos (by omega) (Ev.pos (by omega) (Ev.pos hn (Ev.pos (by omega) (by exact_mod_cast he)))))
      · obtain ⟨g, hg, he⟩ := ih (i + 1) (out ++ [Int.tmod l[i] 100]) (by omega) (by simp; omega) (by
          intro x hm
          rcases List.mem_append.mp hm with hm | hm
          · exact hx x hm
          · obtain rfl := List.mem_singleton.mp hm
            rw [Int.tmod_eq_emod_of_nonneg (by omega)]
            omega)
        refine ⟨g, hg, ?_⟩
        refine Ev.step (fun k => by rw [concordanceref17_Good.l0]) (Ev.pos (by omega) ?_)
        refine Ev.step (fun k => by rw [concordanceref17_Good.j1, hr, wrap_small (i + 1) (by omega)]) ?_
        exact Ev.pos (by simp; omega) (Ev.pos (by omega) (Ev.pos (by omega) (Ev.neg hn (Ev.pos (by omega) (by exact_mod_cast he)))))
    · refine ⟨out, ⟨by omega, hx⟩, ?_⟩
      refine Ev.step (fun k => by rw [concordanceref17_Good.l0]) (Ev.neg (by omega) ?_)
      exact Ev.step (fun k => by rw [concordanceref17_Good.j1]) (Ev.neg (by decide) (Ev.ret rfl))
theorem good_ev (l : List Int) (hlen : l.length ≤ maxLen) (hwf : ∀ x ∈ l, (Lit.int .i64 x).wf = true) : ∃ g, Few g ∧ Ev (fun k => concordanceref17_Good.f k l 20) g := by
  unfold concordanceref17_Good.f
  exact good_loop l hlen hwf 20 0 [] rfl (Nat.le_refl _) (fun _ h => by cases h)

/-- The place that a number stands for, and the end of a run. -/
def fromP (l : List Int) (a : Int) : Nat := (min (max a 0) (l.length : Int)).toNat
def toP (l : List Int) (a b : Int) : Nat := (min (max b (fromP l a)) (l.length : Int)).toNat
def wIn (l : List Int) (a b : Int) : Int := pre l (toP l a b) - pre l (fromP l a)
theorem fromP_le (l : List Int) (a : Int) : fromP l a ≤ l.length := by unfold fromP; omega
theorem toP_le (l : List Int) (a b : Int) : toP l a b ≤ l.length := by unfold toP; omega
theorem from_le_to (l : List Int) (a b : Int) : fromP l a ≤ toP l a b := by have := fromP_le l a; unfold toP; omega
theorem in_run (l : List Int) (a b : Int) (i : Nat) (h : i < l.length) : (a ≤ (i : Int) ∧ (i : Int) < b) ↔ (fromP l a ≤ i ∧ i < toP l a b) := by unfold toP fromP; omega

theorem refW_loop (l : List Int) (a b : Int) (hl : Fits l) (d : Nat) : ∀ i : Nat, i + d = l.length →
    Ev (fun k => concordanceref17_Weight.l0 k l a b (pre l (min i (toP l a b)) - pre l (min i (fromP l a))) (i : Int)) (wIn l a b) := by
  have hlen := hl.1
  have h1 := fromP_le l a
  have h2 := toP_le l a b
  induction d with
  | zero =>
    intro i hi
    refine Ev.step (fun k => by rw [concordanceref17_Weight.l0]) (Ev.neg (by omega) (Ev.ret ?_))
    unfold wIn
    rw [Nat.min_eq_right (by omega), Nat.min_eq_right (by omega)]
  | succ d ih =>
    intro i hi
    have hr2 : rd l (i : Int) = l[i] := rd_nat l i (by omega)
    have hp := pre_succ l i (by omega)
    have hg := ih (i + 1) (by omega)
    have hin := in_run l a b i (by omega)
    have hft := from_le_to l a b
    have r1 := pre_range l hl (min i (toP l a b))
    have r2 := pre_range l hl (min i (fromP l a))
    have r3 := hl.2 l[i] (List.getElem_mem (by omega))
    refine Ev.step (fun k => by rw [concordanceref17_Weight.l0, hr2, wrap_small (i + 1) (by omega), wrap_small _ (by omega)]) (Ev.pos (by omega) ?_)
    by_cases hc : fromP l a ≤ i ∧ i < toP l a b
    · have e : pre l (min (i + 1) (toP l a b)) - pre l (min (i + 1) (fromP l a)) = pre l (min i (toP l a b)) - pre l (min i (fromP l a)) + l[i] := by
        rw [Nat.min_eq_left (show i + 1 ≤ toP l a b by omega), Nat.min_eq_left (show i ≤ toP l a b by omega), Nat.min_eq_right (show fromP l a ≤ i + 1 by omega), Nat.min_eq_right (show fromP l a ≤ i by omega), hp]
        omega
      rw [e] at hg
      exact Ev.pos (hin.mpr hc).1 (Ev.pos (hin.mpr hc).2 (Ev.pos (by omega) (by exact_mod_cast hg)))
    · have e : pre l (min (i + 1) (toP l a b)) - pre l (min (i + 1) (fromP l a)) = pre l (min i (toP l a b)) - pre l (min i (fromP l a)) := by
        by_cases hf : fromP l a ≤ i
        · rw [show min (i + 1) (toP l a b) = min i (toP l a b) by omega, show min (i + 1) (fromP l a) = min i (fromP l a) by omega]
        · rw [show min (i + 1) (toP l a b) = i + 1 by omega, show min (i + 1) (fromP l a) = i + 1 by omega, show min i (toP l a b) = i by omega, show min i (fromP l a) = i by omega]
          omega
      rw [e] at hg
      by_cases ha : (i : Int) ≥ a
      · by_cases hb : (i : Int) < b
        · exact absurd (hin.mp ⟨ha, hb⟩) hc
        · exact Ev.pos ha (Ev.neg hb (by exact_mod_cast hg))
      · exact Ev.neg ha (by exact_mod_cast hg)
theorem refW_ev (l : List Int) (a b : Int) (hl : Fits l) : Ev (fun k => concordanceref17_Weight.f k l a b) (wIn l a b) := by
  unfold concordanceref17_Weight.f
  have := refW_loop l a b hl l.length 0 (by omega)
  simpa [Nat.zero_min, pre_zero] using this

theorem polW_ev (l : List Int) (a b : Int) (hl : Fits l) : Ev (fun k => policy_Weight.f k l a b) (wIn l a b) := by
  have h1 := fromP_le l a
  have h2 := toP_le l a b
  have hlen := hl.1
  have r1 := pre_range l hl (toP l a b)
  have r2 := pre_range l hl (fromP l a)
  have e1 : mn (mx a 0) (l.length : Int) = (fromP l a : Int) := by rw [mx_eq, mn_eq]; unfold fromP; omega
  have e2 : mn (mx b (fromP l a : Int)) (l.length : Int) = (toP l a b : Int) := by rw [mx_eq, mn_eq]; unfold toP; omega
  unfold policy_Weight.f policy_in.f
  rw [e1, e2]
  refine Ev.som (Ev.bind (sums_ev l hl) ?_)
  have q1 : rd (sumsM l) (toP l a b : Int) = pre l (toP l a b) := by rw [rd_getD]; exact sumsM_get l _ h2
  have q2 : rd (sumsM l) (fromP l a : Int) = pre l (fromP l a) := by rw [rd_getD]; exact sumsM_get l _ h1
  have q3 := sumsM_length l
  simp only [q1, q2]
  refine Ev.pos (by omega) (Ev.pos (by omega) (Ev.pos (by omega) (Ev.pos (by omega) (Ev.ret ?_))))
  rw [wrap_small _ (by omega)]; rfl

theorem wIn_wt (l : List Int) (w i : Nat) (h : i + w ≤ l.length) : wIn l (i : Int) ((i : Int) + (w : Int)) = wt l w i := by
  unfold wIn wt
  have e1 : fromP l (i : Int) = i := by unfold fromP; omega
  have e2 : toP l (i : Int) ((i : Int) + (w : Int)) = i + w := by unfold toP; rw [e1]; omega
  rw [e1, e2]

theorem refP_loop (l : List Int) (w : Nat) (hl : Fits l) (hw : w ≤ l.length) (d : Nat) : ∀ i : Nat, 0 < i → i + d = l.length - w + 1 →
    Ev (fun k => concordanceref17_Pick.l0 k l (w : Int) (best l w i : Int) (i : Int)) ((best l w (l.length - w + 1) : Int), (best l w (l.length - w + 1) : Int) + (w : Int), true) := by
  have hlen := hl.1
  induction d with
  | zero =>
    intro i h0 hi
    have hb := best_le l w i
    refine Ev.step (fun k => by rw [concordanceref17_Pick.l0, wrap_small ((i : Int) + w) (by omega), wrap_small ((best l w i : Int) + w) (by omega)]) (Ev.neg (by omega) (Ev.ret ?_))
    rw [show l.length - w + 1 = i by omega]
  | succ d ih =>
    intro i h0 hi
    have hb := best_lt l w i h0
    have hg := ih (i + 1) (by omega) (by omega)
    have hs : best l w (i + 1) = if wt l w i < wt l w (best l w i) then i else best l w i := rfl
    refine Ev.step (fun k => by rw [concordanceref17_Pick.l0, wrap_small ((i : Int) + w) (by omega), wrap_small ((best l w i : Int) + w) (by omega), wrap_small (i + 1) (by omega)]) (Ev.pos (by omega) ?_)
    refine Ev.bind (refW_ev l _ _ hl) (Ev.bind (refW_ev l _ _ hl) ?_)
    rw [wIn_wt l w i (by omega), wIn_wt l w (best l w i) (by omega)]
    by_cases hc : wt l w i < wt l w (best l w i)
    · rw [hs, if_pos hc] at hg
      exact Ev.pos hc (by exact_mod_cast hg)
    · rw [hs, if_neg hc] at hg
      exact Ev.neg hc (by exact_mod_cast hg)
theorem wide_eq (l : List Int) (b : Int) (h : 1 < l.length) : mn (mx b 2) (l.length : Int) = (wide l.length b : Int) := by rw [mx_eq, mn_eq]; unfold wide; omega
theorem wide_le (n : Nat) (b : Int) : wide n b ≤ n := by unfold wide; omega
theorem refP_ev (l : List Int) (a b : Int) (hl : Fits l) : Ev (fun k => concordanceref17_Pick.f k l a b) (pickM l a b) := by
  unfold concordanceref17_Pick.f pickM
  rw [mx_eq a 1]
  by_cases h : (l.length : Int) ≤ max a 1
  · rw [if_pos h]
    exact Ev.pos h (Ev.ret rfl)
  · rw [if_neg h]
    refine Ev.neg h ?_
    rw [wide_eq l b (by omega)]
    have hw := wide_le l.length b
    have := refP_loop l (wide l.length b) hl hw (l.length - wide l.length b) 1 (by omega) (by omega)
    have e : best l (wide l.length b) 1 = 0 := by unfold best; split <;> rfl
    rw [e] at this
    exact_mod_cast this
/-- The best is as light as any, and lighter than any one ahead of it. -/
theorem best_is (l : List Int) (w : Nat) : ∀ k j : Nat, j < k → wt l w (best l w k) ≤ wt l w j ∧ (j < best l w k → wt l w (best l w k) < wt l w j)
  | 0, _, h => absurd h (by omega)
  | k + 1, j, h => by
    have hs : best l w (k + 1) = if wt l w k < wt l w (best l w k) then k else best l w k := rfl
    rw [hs]
    by_cases hc : wt l w k < wt l w (best l w k)
    · rw [if_pos hc]
      by_cases hj : j = k
      · subst hj; omega
      · have := best_is l w k j (by omega)
        omega
    · rw [if_neg hc]
      by_cases hj : j = k
      · subst hj
        have := best_le l w j
        omega
      · exact best_is l w k j (by omega)
end Go.Proofs.Ytpaenaedahoggaa

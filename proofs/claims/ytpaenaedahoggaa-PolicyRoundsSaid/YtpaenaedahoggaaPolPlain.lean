/-! Which sizes are merged: plain lists. -/
namespace Go.Proofs.Ytpaenaedahoggaa
/-- The sum of the first k. -/
def pre (l : List Int) (k : Nat) : Int := (l.take k).sum
/-- The weight of a run of w sizes from place i on. -/
def wt (l : List Int) (w i : Nat) : Int := pre l (i + w) - pre l i
/-- The lightest of the first k runs, the first one of these. -/
def best (l : List Int) (w : Nat) : Nat → Nat
  | 0 => 0
  | k + 1 => if wt l w k < wt l w (best l w k) then k else best l w k
def wide (n : Nat) (width : Int) : Nat := min (max width 2).toNat n
def pickM (l : List Int) (most width : Int) : Int × Int × Bool :=
  if (l.length : Int) ≤ max most 1 then (0, 0, false)
  else ((best l (wide l.length width) (l.length - wide l.length width + 1) : Int), (best l (wide l.length width) (l.length - wide l.length width + 1) : Int) + (wide l.length width : Int), true)
/-- Sizes whose sums fit. -/
def Fits (l : List Int) : Prop := l.length ≤ 1000000 ∧ ∀ x ∈ l, 0 ≤ x ∧ x ≤ 1000000
instance (l : List Int) : Decidable (Fits l) := by unfold Fits; infer_instance

theorem pre_zero (l : List Int) : pre l 0 = 0 := rfl
theorem pre_succ (l : List Int) (k : Nat) (h : k < l.length) : pre l (k + 1) = pre l k + l[k] := by
  unfold pre
  rw [List.take_succ_eq_append_getElem h, List.sum_append]
  simp
theorem pre_past (l : List Int) (k : Nat) (h : l.length ≤ k) : pre l k = l.sum := by unfold pre; rw [List.take_of_length_le h]
theorem pre_bd (l : List Int) (hl : Fits l) : ∀ k : Nat, 0 ≤ pre l k ∧ pre l k ≤ 1000000 * (min k l.length : Nat) := by
  intro k
  induction k with
  | zero => simp [pre_zero]
  | succ k ih =>
    by_cases h : k < l.length
    · rw [pre_succ l k h]
      have := hl.2 l[k] (List.getElem_mem h)
      omega
    · rw [pre_past l (k + 1) (by omega), ← pre_past l k (by omega)]
      omega
theorem pre_range (l : List Int) (hl : Fits l) (k : Nat) : 0 ≤ pre l k ∧ pre l k ≤ 1000000000000 := by
  have := pre_bd l hl k
  have := hl.1
  omega
theorem best_lt (l : List Int) (w : Nat) : ∀ k : Nat, 0 < k → best l w k < k
  | 0, h => absurd h (by omega)
  | 1, _ => by unfold best; split <;> simp [best]
  | k + 2, _ => by
    have := best_lt l w (k + 1) (by omega)
    unfold best
    split <;> omega
theorem best_le (l : List Int) (w : Nat) (k : Nat) : best l w k ≤ k := by
  cases k with
  | zero => exact Nat.le_refl _
  | succ k => exact Nat.le_of_lt (best_lt l w (k + 1) (by omega))
def sumsM (l : List Int) : List Int := (List.range (l.length + 1)).map (pre l)
theorem sumsM_length (l : List Int) : (sumsM l).length = l.length + 1 := by simp [sumsM]
theorem sumsM_get (l : List Int) (i : Nat) (h : i ≤ l.length) : (sumsM l).getD i 0 = pre l i := by
  unfold sumsM
  rw [List.getD_eq_getElem?_getD, List.getElem?_map, List.getElem?_range (by omega)]
  rfl
end Go.Proofs.Ytpaenaedahoggaa

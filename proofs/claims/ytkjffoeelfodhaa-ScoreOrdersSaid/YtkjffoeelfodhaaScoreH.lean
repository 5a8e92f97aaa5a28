/- Piles of ranks, plain: the least good one is the first one. No condition. -/
import Derived.Test.YtkjffoeelfodhaaScoreP
namespace Go.Proofs.Ytkjffoeelfodhaa.Sc

/-- At a place. -/
def at' (l : List Rk) (i : Nat) : Rk := l.getD i (0, 0, 0)
theorem at_get {l : List Rk} {i : Nat} (h : i < l.length) : at' l i = l[i] := by unfold at'; simp [List.getD_eq_getElem?_getD, h]
/-- An exchange. -/
def swp (l : List Rk) (i j : Nat) : List Rk := (l.set i (at' l j)).set j (at' l i)
theorem swp_len (l : List Rk) (i j : Nat) : (swp l i j).length = l.length := by unfold swp; simp
theorem swp_perm {l : List Rk} {i j : Nat} (hi : i < l.length) (hj : j < l.length) : (swp l i j).Perm l := by
  unfold swp
  rw [at_get hi, at_get hj]
  exact List.set_set_perm hi hj
theorem at_set {l : List Rk} {i : Nat} (x : Rk) (hi : i < l.length) (k : Nat) : at' (l.set i x) k = if k = i then x else at' l k := by
  unfold at'
  simp only [List.getD_eq_getElem?_getD, List.getElem?_set]
  by_cases h : i = k
  · subst h; simp [hi]
  · rw [if_neg h, if_neg (Ne.symm h)]
theorem at_swp {l : List Rk} {i j : Nat} (hi : i < l.length) (hj : j < l.length) (k : Nat) : at' (swp l i j) k = if k = j then at' l i else if k = i then at' l j else at' l k := by
  unfold swp
  rw [at_set _ (by rw [List.length_set]; exact hj), at_set _ hi]
/-- Is the first one less good? -/
def wrs (a b : Rk) : Bool := bet b a
def par (i : Nat) : Nat := (i - 1) / 2
/-- A thing is moved up. -/
def up : Nat → List Rk → Nat → List Rk
  | 0, l, _ => l
  | n + 1, l, i => if decide (0 < i) && wrs (at' l i) (at' l (par i)) then up n (swp l i (par i)) (par i) else l
def Heap (l : List Rk) : Prop := ∀ j, 0 < j → j < l.length → wrs (at' l j) (at' l (par j)) = false
def HeapUp (l : List Rk) (i : Nat) : Prop :=
  (∀ j, 0 < j → j < l.length → j ≠ i → wrs (at' l j) (at' l (par j)) = false) ∧ (∀ j, 0 < j → j < l.length → par j = i → 0 < i → wrs (at' l j) (at' l (par i)) = false)
def HeapDown (l : List Rk) (i : Nat) : Prop :=
  (∀ j, 0 < j → j < l.length → par j ≠ i → wrs (at' l j) (at' l (par j)) = false) ∧ (∀ j, 0 < j → j < l.length → par j = i → 0 < i → wrs (at' l j) (at' l (par i)) = false)
theorem up_len : ∀ (n : Nat) (l : List Rk) (i : Nat), (up n l i).length = l.length
  | 0, _, _ => rfl
  | n + 1, l, i => by unfold up; split; · rw [up_len n, swp_len]
                      · rfl
theorem up_perm : ∀ (n : Nat) (l : List Rk) (i : Nat), i < l.length → (up n l i).Perm l
  | 0, _, _, _ => List.Perm.refl _
  | n + 1, l, i, h => by
    unfold up
    have hp : par i < l.length := by unfold par; omega
    split
    · exact (up_perm n _ _ (by rw [swp_len]; exact hp)).trans (swp_perm h hp)
    · exact List.Perm.refl _
theorem up_heap : ∀ (n : Nat) (l : List Rk) (i : Nat), i < l.length → i < n → HeapUp l i → Heap (up n l i)
  | 0, _, _, _, h, _ => by omega
  | n + 1, l, i, h, hn, ⟨h1, h2⟩ => by
    unfold up
    split
    · rename_i hc
      rw [Bool.and_eq_true, decide_eq_true_iff] at hc
      obtain ⟨h0, hw⟩ := hc
      have hp : par i < l.length := by unfold par; omega
      have hpi : par i < i := by unfold par; omega
      refine up_heap n _ _ (by rw [swp_len]; exact hp) (by omega) ⟨?_, ?_⟩
      · intro j hj hjl hjp
        rw [swp_len] at hjl
        rw [at_swp h hp, at_swp h hp]
        by_cases e : j = i
        · subst e
          rw [if_neg (by omega), if_pos rfl, if_pos rfl]
          exact bet_asymm hw
        · rw [if_neg hjp, if_neg e]
          by_cases e2 : par j = par i
          · rw [if_pos e2]
            have h3 := h1 j hj hjl e
            rw [e2] at h3
            cases hb : wrs (at' l j) (at' l i)
            · rfl
            · have := bet_trans hw hb
              unfold wrs at h3
              rw [this] at h3; cases h3
          · rw [if_neg e2]
            by_cases e3 : par j = i
            · rw [if_pos e3]; exact h2 j hj hjl e3 h0
            · rw [if_neg e3]; exact h1 j hj hjl e
      · intro j hj hjl hjp h0p
        rw [swp_len] at hjl
        have hpp : par (par i) < par i := by unfold par at h0p ⊢; omega
        have h4 := h1 (par i) h0p hp (by omega)
        rw [at_swp h hp, at_swp h hp, if_neg (show par (par i) ≠ par i by omega), if_neg (show par (par i) ≠ i by omega)]
        have hjn : j ≠ par i := by intro e; rw [e] at hjp; omega
        rw [if_neg hjn]
        by_cases e : j = i
        · rw [if_pos e]; exact h4
        · rw [if_neg e]
          have h3 := h1 j hj hjl e
          rw [hjp] at h3
          exact bet_le_le h3 h4
    · rename_i hc
      intro j hj hjl
      by_cases e : j = i
      · subst e
        cases hb : wrs (at' l j) (at' l (par j))
        · rfl
        · exfalso; apply hc; rw [hb, decide_eq_true hj]; rfl
      · exact h1 j hj hjl e
/-- The less good one of a place and those below it. -/
def low1 (l : List Rk) (i : Nat) : Nat := if decide (2 * i + 1 < l.length) && wrs (at' l (2 * i + 1)) (at' l i) then 2 * i + 1 else i
def low2 (l : List Rk) (i : Nat) : Nat := if decide (2 * i + 2 < l.length) && wrs (at' l (2 * i + 2)) (at' l (low1 l i)) then 2 * i + 2 else low1 l i
def down : Nat → List Rk → Nat → List Rk
  | 0, l, _ => l
  | n + 1, l, i => if low2 l i = i then l else down n (swp l i (low2 l i)) (low2 l i)
theorem low1_spec (l : List Rk) (i : Nat) (hi : i < l.length) : low1 l i < l.length ∧ (low1 l i = i ∨ (low1 l i = 2 * i + 1 ∧ wrs (at' l (low1 l i)) (at' l i) = true)) ∧ (2 * i + 1 < l.length → wrs (at' l (2 * i + 1)) (at' l (low1 l i)) = false) := by
  unfold low1
  split
  · rename_i hc
    rw [Bool.and_eq_true, decide_eq_true_iff] at hc
    exact ⟨hc.1, .inr ⟨rfl, hc.2⟩, fun _ => bet_irrefl _⟩
  · rename_i hc
    refine ⟨hi, .inl rfl, fun hl => ?_⟩
    cases hb : wrs (at' l (2 * i + 1)) (at' l i)
    · rfl
    · exfalso; apply hc; rw [hb, decide_eq_true hl]; rfl
theorem low2_spec (l : List Rk) (i : Nat) (hi : i < l.length) : low2 l i < l.length ∧ (low2 l i = i ∨ (i < low2 l i ∧ par (low2 l i) = i ∧ wrs (at' l (low2 l i)) (at' l i) = true)) ∧ (∀ c, 0 < c → c < l.length → par c = i → wrs (at' l c) (at' l (low2 l i)) = false) := by
  obtain ⟨h1, h2, h3⟩ := low1_spec l i hi
  have hpar : ∀ c, 0 < c → par c = i → c = 2 * i + 1 ∨ c = 2 * i + 2 := fun c h0 h => by unfold par at h; omega
  unfold low2
  split
  · rename_i hc
    rw [Bool.and_eq_true, decide_eq_true_iff] at hc
    refine ⟨hc.1, .inr ⟨by omega, by unfold par; omega, ?_⟩, ?_⟩
    · rcases h2 with e | ⟨_, h4⟩
      · rw [e] at hc; exact hc.2
      · exact bet_trans h4 hc.2
    · intro c h0 hcl hp
      rcases hpar c h0 hp with rfl | rfl
      · exact bet_le_le (h3 hcl) (bet_asymm hc.2)
      · exact bet_irrefl _
  · rename_i hc
    refine ⟨h1, ?_, ?_⟩
    · rcases h2 with e | ⟨e, h4⟩
      · exact .inl e
      · exact .inr ⟨by omega, by rw [e]; unfold par; omega, h4⟩
    · intro c h0 hcl hp
      rcases hpar c h0 hp with rfl | rfl
      · exact h3 hcl
      · cases hb : wrs (at' l (2 * i + 2)) (at' l (low1 l i))
        · rfl
        · exfalso; apply hc; rw [hb, decide_eq_true hcl]; rfl
theorem down_len : ∀ (n : Nat) (l : List Rk) (i : Nat), (down n l i).length = l.length
  | 0, _, _ => rfl
  | n + 1, l, i => by unfold down; split; · rfl
                      · rw [down_len n, swp_len]
theorem down_perm : ∀ (n : Nat) (l : List Rk) (i : Nat), i < l.length → (down n l i).Perm l
  | 0, _, _, _ => List.Perm.refl _
  | n + 1, l, i, h => by
    unfold down
    split
    · exact List.Perm.refl _
    · exact (down_perm n _ _ (by rw [swp_len]; exact (low2_spec l i h).1)).trans (swp_perm h (low2_spec l i h).1)
theorem down_heap : ∀ (n : Nat) (l : List Rk) (i : Nat), i < l.length → l.length - i ≤ n → HeapDown l i → Heap (down n l i)
  | 0, _, _, _, _, _ => by omega
  | n + 1, l, i, h, hn, ⟨h1, h2⟩ => by
    obtain ⟨hb, hor, hch⟩ := low2_spec l i h
    unfold down
    split
    · rename_i e
      intro j hj hjl
      by_cases ep : par j = i
      · have := hch j hj hjl ep
        rw [e] at this
        rw [ep]; exact this
      · exact h1 j hj hjl ep
    · rename_i e
      rcases hor with e2 | ⟨hgt, hpb, hw⟩
      · exact absurd e2 e
      · generalize low2 l i = b at *
        refine down_heap n _ _ (by rw [swp_len]; exact hb) (by rw [swp_len]; omega) ⟨?_, ?_⟩
        · intro j hj hjl hjp
          rw [swp_len] at hjl
          rw [at_swp h hb, at_swp h hb, if_neg hjp]
          by_cases ej : j = b
          · rw [if_pos ej, ej, hpb, if_pos rfl]; exact bet_asymm hw
          · rw [if_neg ej]
            by_cases ei : j = i
            · have hpj : par j < j := by unfold par; omega
              have h3 := h2 b (by omega) hb hpb (by omega)
              rw [if_pos ei, if_neg (show par j ≠ i by omega), ei]
              exact h3
            · rw [if_neg ei]
              by_cases ep : par j = i
              · rw [if_pos ep]; exact hch j hj hjl ep
              · rw [if_neg ep]; exact h1 j hj hjl ep
        · intro j hj hjl hjp h0b
          rw [swp_len] at hjl
          have hjb : b < j := by unfold par at hjp; omega
          rw [at_swp h hb, at_swp h hb, if_neg (by omega), if_neg (by omega), hpb, if_neg (by omega), if_pos rfl]
          have := h1 j hj hjl (by omega)
          rw [hjp] at this
          exact this
theorem heap_top {l : List Rk} (h : Heap l) : ∀ (i : Nat), i < l.length → bet (at' l 0) (at' l i) = false := by
  intro i
  induction i using Nat.strongRecOn with
  | _ i ih =>
    intro hi
    by_cases e : i = 0
    · subst e; exact bet_irrefl _
    · have hp : par i < i := by unfold par; omega
      have h1 := ih (par i) hp (by omega)
      have h2 := h i (by omega) hi
      exact bet_le_le h2 h1
/-- One more is kept, or not. -/
def addK (k : Nat) (K : List Rk) (r : Rk) : List Rk :=
  if K.length < k then up (K.length + 2) (K ++ [r]) K.length
  else if decide (0 < k) && bet r (at' K 0) then down K.length (K.set 0 r) 0
  else K
theorem addK_ok {k : Nat} {xs K : List Rk} {r : Rk} (hH : Heap K) (hK : Kept k xs K) (hl : K.length ≤ k) : Heap (addK k K r) ∧ Kept k (xs ++ [r]) (addK k K r) ∧ (addK k K r).length ≤ k := by
  unfold addK
  by_cases h1 : K.length < k
  · rw [if_pos h1]
    have hi : K.length < (K ++ [r]).length := by simp
    refine ⟨up_heap _ _ _ hi (by omega) ⟨?_, ?_⟩, hK.room h1 (up_perm _ _ _ hi), by rw [up_len]; simp; omega⟩
    · intro j hj hjl hne
      rw [List.length_append, List.length_singleton] at hjl
      have e1 : ∀ m, m < K.length → at' (K ++ [r]) m = at' K m := fun m hm => by unfold at'; simp [List.getD_eq_getElem?_getD, List.getElem?_append_left hm]
      rw [e1 j (by omega), e1 (par j) (by unfold par; omega)]
      exact hH j hj (by omega)
    · intro j hj hjl hp h0
      rw [List.length_append, List.length_singleton] at hjl
      unfold par at hp; omega
  · rw [if_neg h1]
    have hkl : K.length = k := by omega
    by_cases h2 : 0 < k ∧ bet r (at' K 0) = true
    · rw [if_pos (by rw [h2.2, decide_eq_true h2.1]; rfl)]
      obtain ⟨hk0, hb⟩ := h2
      have h0 : 0 < K.length := by omega
      have hp := down_perm K.length (K.set 0 r) 0 (by rw [List.length_set]; exact h0)
      refine ⟨down_heap _ _ _ (by rw [List.length_set]; exact h0) (by rw [List.length_set]; omega) ⟨?_, ?_⟩, hK.replaced (w := at' K 0) hkl ?_ ?_ hb ?_, by rw [down_len, List.length_set]; omega⟩
      · intro j hj hjl hne
        rw [List.length_set] at hjl
        rw [at_set _ h0, at_set _ h0, if_neg (by omega), if_neg hne]
        exact hH j hj hjl
      · intro j _ _ _ h; omega
      · intro a ha
        obtain ⟨i, hi, rfl⟩ := List.getElem_of_mem ha
        have := heap_top hH i hi
        rwa [at_get hi] at this
      · rw [at_get h0]; exact List.getElem_mem h0
      · cases K with
        | nil => simp at h0
        | cons x K => exact (hp.cons _).trans (List.Perm.swap r x K)
    · rw [if_neg (by intro h; rw [Bool.and_eq_true, decide_eq_true_iff] at h; exact h2 h)]
      refine ⟨hH, hK.dropped hkl ?_, hl⟩
      intro a ha
      obtain ⟨i, hi, rfl⟩ := List.getElem_of_mem ha
      have h0 : 0 < K.length := by omega
      have h3 : bet r (at' K 0) = false := by
        cases hb : bet r (at' K 0)
        · rfl
        · exact absurd ⟨by omega, hb⟩ h2
      have h4 := heap_top hH i hi
      rw [at_get hi] at h4
      -- r is no better than the least good one
      exact bet_le_le h4 h3
/-- All of a list, one behind the other. -/
def addAll (k : Nat) (K : List Rk) (xs : List Rk) : List Rk := xs.foldl (addK k) K
theorem addAll_ok (k : Nat) : ∀ (ys xs K : List Rk), Heap K → Kept k xs K → K.length ≤ k → Heap (addAll k K ys) ∧ Kept k (xs ++ ys) (addAll k K ys) ∧ (addAll k K ys).length ≤ k
  | [], xs, K, h1, h2, h3 => by rw [List.append_nil]; exact ⟨h1, h2, h3⟩
  | y :: ys, xs, K, h1, h2, h3 => by
    obtain ⟨g1, g2, g3⟩ := addK_ok (r := y) h1 h2 h3
    have := addAll_ok k ys (xs ++ [y]) (addK k K y) g1 g2 g3
    rw [List.append_assoc] at this
    exact this
theorem heap_nil : Heap [] := fun j _ h => by simp at h
theorem addAll_sorted (k : Nat) (ys : List Rk) : sortR (addAll k [] ys) = (sortR ys).take k := by
  have := (addAll_ok k ys [] [] heap_nil (Kept.nil k) (Nat.zero_le _)).2.1
  exact this.sorted
end Go.Proofs.Ytkjffoeelfodhaa.Sc

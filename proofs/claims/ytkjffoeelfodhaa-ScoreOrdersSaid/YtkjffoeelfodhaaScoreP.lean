/- Ranks, plain: which of two is better, ranks in their row, piles. No condition. -/
namespace Go.Proofs.Ytkjffoeelfodhaa.Sc

/-- Id, Score, Seq. -/
abbrev Rk := Int × Int × Int
/-- Is the first one better? -/
def bet (a b : Rk) : Bool := if a.2.1 ≠ b.2.1 then decide (b.2.1 < a.2.1) else if a.2.2 ≠ b.2.2 then decide (a.2.2 < b.2.2) else decide (a.1 < b.1)
theorem bet_irrefl (a : Rk) : bet a a = false := by unfold bet; simp
theorem bet_iff (a b : Rk) : bet a b = true ↔ (b.2.1 < a.2.1 ∨ (a.2.1 = b.2.1 ∧ (a.2.2 < b.2.2 ∨ (a.2.2 = b.2.2 ∧ a.1 < b.1)))) := by
  unfold bet
  split
  · rw [decide_eq_true_iff]; omega
  · split
    · rw [decide_eq_true_iff]; omega
    · rw [decide_eq_true_iff]; omega
theorem bet_false (a b : Rk) : bet a b = false ↔ ¬ (b.2.1 < a.2.1 ∨ (a.2.1 = b.2.1 ∧ (a.2.2 < b.2.2 ∨ (a.2.2 = b.2.2 ∧ a.1 < b.1)))) := by
  rw [← bet_iff]; simp
theorem bet_trans {a b c : Rk} (h : bet a b = true) (k : bet b c = true) : bet a c = true := by
  rw [bet_iff] at *; omega
theorem bet_asymm {a b : Rk} (h : bet a b = true) : bet b a = false := by
  rw [bet_iff] at h; rw [bet_false]; omega
theorem bet_total {a b : Rk} (h : bet a b = false) (k : bet b a = false) : a = b := by
  rw [bet_false] at *
  obtain ⟨x, y, z⟩ := a
  obtain ⟨x', y', z'⟩ := b
  simp only at *
  have h1 : y = y' := by omega
  have h2 : z = z' := by omega
  have h3 : x = x' := by omega
  rw [h1, h2, h3]
/-- not worse, and better: better. -/
theorem bet_le_lt {a b c : Rk} (h : bet b a = false) (k : bet b c = true) : bet a c = true := by
  rw [bet_false] at h; rw [bet_iff] at *; omega
theorem bet_lt_le {a b c : Rk} (h : bet a b = true) (k : bet c b = false) : bet a c = true := by
  rw [bet_false] at k; rw [bet_iff] at *; omega
theorem bet_le_le {a b c : Rk} (h : bet b a = false) (k : bet c b = false) : bet c a = false := by
  rw [bet_false] at *; omega
/-- In their row. -/
def Row (l : List Rk) : Prop := l.Pairwise (fun a b => bet b a = false)
theorem Row.unique {l m : List Rk} (h : Row l) (k : Row m) (p : l.Perm m) : l = m :=
  p.eq_of_pairwise (fun _ _ _ _ h1 h2 => bet_total h2 h1) h k

/-- Where one more belongs. -/
def place (r : Rk) (l : List Rk) : Nat → Nat
  | 0 => 0
  | k + 1 => if bet r (l.getD k (0, 0, 0)) then place r l k else k + 1
theorem place_le (r : Rk) (l : List Rk) : ∀ k, place r l k ≤ k
  | 0 => Nat.le_refl _
  | k + 1 => by unfold place; split; · exact Nat.le_succ_of_le (place_le r l k)
                · exact Nat.le_refl _
def put (l : List Rk) (r : Rk) : List Rk := l.take (place r l l.length) ++ r :: l.drop (place r l l.length)
theorem put_perm (l : List Rk) (r : Rk) : (put l r).Perm (r :: l) := by
  unfold put
  exact List.perm_middle.trans (by rw [List.take_append_drop])
theorem place_hi (r : Rk) (l : List Rk) : ∀ k i, place r l k ≤ i → i < k → bet r (l.getD i (0, 0, 0)) = true
  | 0, i, _, h => by omega
  | k + 1, i, h, hi => by
    unfold place at h
    split at h
    · by_cases e : i = k
      · subst e; assumption
      · exact place_hi r l k i h (by omega)
    · omega
theorem place_lo (r : Rk) (l : List Rk) : ∀ k, 0 < place r l k → bet r (l.getD (place r l k - 1) (0, 0, 0)) = false
  | 0, h => by simp [place] at h
  | k + 1, h => by
    unfold place at h ⊢
    split
    · rename_i hb
      rw [if_pos hb] at h
      exact place_lo r l k h
    · rename_i hb
      simpa using hb
theorem row_get {l : List Rk} (h : Row l) {i j : Nat} (hij : i < j) (hj : j < l.length) : bet (l.getD j (0, 0, 0)) (l.getD i (0, 0, 0)) = false := by
  have := List.pairwise_iff_getElem.1 h i j (by omega) hj hij
  simpa [List.getD_eq_getElem?_getD, hj, show i < l.length by omega] using this
theorem put_row {l : List Rk} (h : Row l) (r : Rk) : Row (put l r) := by
  unfold put
  have hp := place_le r l l.length
  have hlo := place_lo r l l.length
  have hhi := place_hi r l l.length
  generalize place r l l.length = p at *
  refine List.pairwise_append.2 ⟨h.sublist (List.take_sublist _ _), List.pairwise_cons.2 ⟨?_, h.sublist (List.drop_sublist _ _)⟩, ?_⟩
  · intro b hb
    obtain ⟨i, hi, rfl⟩ := List.getElem_of_mem hb
    rw [List.length_drop] at hi
    have := hhi (p + i) (by omega) (by omega)
    rw [List.getElem_drop]
    apply bet_asymm
    simpa [List.getD_eq_getElem?_getD, show p + i < l.length by omega] using this
  · intro a ha b hb
    obtain ⟨i, hi, rfl⟩ := List.getElem_of_mem ha
    rw [List.length_take] at hi
    rw [List.getElem_take]
    have hip : i < p := by omega
    have h1 : bet r (l[i]'(by omega)) = false := by
      have h2 := hlo (by omega)
      by_cases e : i = p - 1
      · subst e
        simpa [List.getD_eq_getElem?_getD, show p - 1 < l.length by omega] using h2
      · have h3 := row_get h (show i < p - 1 by omega) (by omega)
        have h4 := bet_le_le h3 h2
        simpa [List.getD_eq_getElem?_getD, show i < l.length by omega] using h4
    rcases List.mem_cons.1 hb with rfl | hb
    · exact h1
    · obtain ⟨j, hj, rfl⟩ := List.getElem_of_mem hb
      rw [List.length_drop] at hj
      rw [List.getElem_drop]
      exact List.pairwise_iff_getElem.1 h i (p + j) (by omega) (by omega) (by omega)
/-- All, in their row. -/
def sortR (l : List Rk) : List Rk := l.foldl put []
theorem foldl_perm : ∀ (l acc : List Rk), (l.foldl put acc).Perm (acc ++ l)
  | [], acc => by simp
  | x :: l, acc => by
    refine (foldl_perm l (put acc x)).trans ?_
    refine ((put_perm acc x).append_right l).trans ?_
    exact (List.perm_middle (l₁ := acc) (a := x) (l₂ := l)).symm
theorem sortR_perm (l : List Rk) : (sortR l).Perm l := foldl_perm l []
theorem foldl_row : ∀ (l acc : List Rk), Row acc → Row (l.foldl put acc)
  | [], _, h => h
  | x :: l, acc, h => foldl_row l (put acc x) (put_row h x)
theorem sortR_row (l : List Rk) : Row (sortR l) := foldl_row l [] List.Pairwise.nil
theorem sortR_eq {l m : List Rk} (h : Row m) (p : m.Perm l) : m = sortR l := h.unique (sortR_row l) (p.trans (sortR_perm l).symm)
theorem sortR_of_perm {l m : List Rk} (p : l.Perm m) : sortR l = sortR m := sortR_eq (sortR_row l) ((sortR_perm l).trans p)
theorem sortR_len (l : List Rk) : (sortR l).length = l.length := (sortR_perm l).length_eq

/-- The kept ones: others were dropped, none of these is better than one that is kept. -/
def Kept (k : Nat) (xs K : List Rk) : Prop := ∃ D, (K ++ D).Perm xs ∧ K.length = min k xs.length ∧ ∀ a, a ∈ K → ∀ d, d ∈ D → bet d a = false
theorem Kept.sorted {k : Nat} {xs K : List Rk} (h : Kept k xs K) : sortR K = (sortR xs).take k := by
  obtain ⟨D, hp, hl, hk⟩ := h
  have h1 : Row (sortR K ++ sortR D) := List.pairwise_append.2 ⟨sortR_row K, sortR_row D, fun a ha b hb => hk a ((sortR_perm K).mem_iff.1 ha) b ((sortR_perm D).mem_iff.1 hb)⟩
  have h2 : sortR K ++ sortR D = sortR xs := sortR_eq h1 (((sortR_perm K).append (sortR_perm D)).trans hp)
  rw [← h2]
  by_cases hk : k ≤ xs.length
  · rw [List.take_append_of_le_length (by rw [sortR_len]; omega), List.take_of_length_le (by rw [sortR_len]; omega)]
  · have hD : D = [] := by
      have := hp.length_eq
      rw [List.length_append] at this
      exact List.eq_nil_of_length_eq_zero (by omega)
    subst hD
    rw [show sortR ([] : List Rk) = [] from rfl, List.append_nil, List.take_of_length_le (by rw [sortR_len]; omega)]
theorem Kept.nil (k : Nat) : Kept k [] [] := ⟨[], List.Perm.refl _, by simp, by simp⟩
/-- There is room. -/
theorem Kept.room {k : Nat} {xs K K2 : List Rk} {r : Rk} (h : Kept k xs K) (hl : K.length < k) (hp : K2.Perm (K ++ [r])) : Kept k (xs ++ [r]) K2 := by
  obtain ⟨D, hp1, hl1, _⟩ := h
  have hD : D = [] := by
    have := hp1.length_eq
    rw [List.length_append] at this
    exact List.eq_nil_of_length_eq_zero (by omega)
  subst hD
  rw [List.append_nil] at hp1
  exact ⟨[], by rw [List.append_nil]; exact hp.trans (hp1.append_right [r]), by rw [hp.length_eq, List.length_append, List.length_append, List.length_singleton, hp1.length_eq]; have := hp1.length_eq; omega, by simp⟩
/-- One is dropped for a better one; the least good one. -/
theorem Kept.replaced {k : Nat} {xs K K2 : List Rk} {r w : Rk} (h : Kept k xs K) (hl : K.length = k) (hw : ∀ a, a ∈ K → bet w a = false) (hmem : w ∈ K) (hb : bet r w = true) (hp : (w :: K2).Perm (r :: K)) : Kept k (xs ++ [r]) K2 := by
  obtain ⟨D, hp1, hl1, hd⟩ := h
  have e1 := hp.length_eq
  have e2 := hp1.length_eq
  simp only [List.length_cons, List.length_append] at e1 e2
  refine ⟨w :: D, ?_, ?_, ?_⟩
  · have h1 : (K2 ++ w :: D).Perm ((w :: K2) ++ D) := List.perm_middle
    refine h1.trans ((hp.append_right D).trans ?_)
    have h2 : (r :: (K ++ D)).Perm (r :: xs) := hp1.cons r
    exact h2.trans (List.perm_append_singleton r xs).symm
  · rw [List.length_append, List.length_singleton]; omega
  · intro a ha d hd'
    have ha2 : a = r ∨ a ∈ K := by
      have := hp.mem_iff.1 (List.mem_cons_of_mem w ha)
      simpa using this
    rcases List.mem_cons.1 hd' with rfl | hd'
    · rcases ha2 with rfl | ha2
      · exact bet_asymm hb
      · exact hw a ha2
    · rcases ha2 with rfl | ha2
      · exact bet_le_le (bet_asymm hb) (hd w hmem d hd')
      · exact hd a ha2 d hd'
/-- One is dropped. -/
theorem Kept.dropped {k : Nat} {xs K : List Rk} {r : Rk} (h : Kept k xs K) (hl : K.length = k) (hw : ∀ a, a ∈ K → bet r a = false) : Kept k (xs ++ [r]) K := by
  obtain ⟨D, hp1, hl1, hd⟩ := h
  refine ⟨D ++ [r], ?_, ?_, ?_⟩
  · rw [← List.append_assoc]; exact hp1.append_right [r]
  · rw [List.length_append, List.length_singleton]
    have := hp1.length_eq
    rw [List.length_append] at this
    omega
  · intro a ha d hd'
    rcases List.mem_append.1 hd' with h | h
    · exact hd a ha d h
    · obtain rfl : d = r := by simpa using h
      exact hw a ha
/-- The best k of all, of the bests of parts. -/
theorem best_join (k : Nat) (a b : List Rk) : (sortR ((sortR a).take k ++ (sortR b).take k)).take k = (sortR (a ++ b)).take k := by
  have key : ∀ (x c : List Rk), Row x → (sortR (x.take k ++ c)).take k = (sortR (x ++ c)).take k := by
    intro x c hx
    by_cases hk : k ≤ x.length
    · have h1 : Kept k (x ++ c) ((sortR (x.take k ++ c)).take k) := by
        have hs := sortR_perm (x.take k ++ c)
        have hlen : (sortR (x.take k ++ c)).length = k + c.length := by rw [sortR_len, List.length_append, List.length_take]; omega
        refine ⟨(sortR (x.take k ++ c)).drop k ++ x.drop k, ?_, ?_, ?_⟩
        · rw [← List.append_assoc, List.take_append_drop]
          refine (hs.append_right (x.drop k)).trans ?_
          rw [List.append_assoc]
          refine (List.Perm.append_left (x.take k) (List.perm_append_comm)).trans ?_
          rw [← List.append_assoc, List.take_append_drop]
        · rw [List.length_take, hlen, List.length_append]; omega
        · intro p hp d hd
          rcases List.mem_append.1 hd with hd | hd
          · have hrow := sortR_row (x.take k ++ c)
            rw [← List.take_append_drop k (sortR (x.take k ++ c))] at hrow
            exact (List.pairwise_append.1 hrow).2.2 p hp d hd
          · -- all k that stand first are no worse than the k of x
            have hxd : ∀ y, y ∈ x.take k → bet d y = false := by
              rw [← List.take_append_drop k x] at hx
              exact fun y hy => (List.pairwise_append.1 hx).2.2 y hy d hd
            cases hb : bet d p
            · rfl
            · exfalso
              -- d is better than p: so each of the k of x is better than p, and stands ahead of it
              have hrow := sortR_row (x.take k ++ c)
              obtain ⟨i, hi, rfl⟩ := List.getElem_of_mem hp
              rw [List.length_take] at hi
              rw [List.getElem_take] at hb
              have hbet : ∀ y, y ∈ x.take k → bet y ((sortR (x.take k ++ c))[i]'(by omega)) = true := fun y hy => bet_le_lt (hxd y hy) hb
              -- count what is better than p
              have hgt : ∀ j (hj : j < (sortR (x.take k ++ c)).length), i ≤ j → bet ((sortR (x.take k ++ c))[j]'hj) ((sortR (x.take k ++ c))[i]'(by omega)) = false := by
                intro j hj hij
                by_cases e : i = j
                · subst e; exact bet_irrefl _
                · exact List.pairwise_iff_getElem.1 hrow i j (by omega) (by omega) (by omega)
              obtain ⟨q, hq⟩ : ∃ q, (sortR (x.take k ++ c))[i]'(by omega) = q := ⟨_, rfl⟩
              rw [hq] at hbet
              simp only [hq] at hgt
              clear hb hp
              have hcnt : (x.take k).countP (fun y => bet y q) = k := by
                rw [List.countP_eq_length.2 (fun y hy => hbet y hy), List.length_take]; omega
              have hcnt2 : (sortR (x.take k ++ c)).countP (fun y => bet y q) ≤ i := by
                clear hcnt hq
                generalize sortR (x.take k ++ c) = z at *
                rw [← List.take_append_drop i z, List.countP_append]
                have h0 : (z.drop i).countP (fun y => bet y q) = 0 := by
                  rw [List.countP_eq_zero]
                  intro y hy
                  obtain ⟨j, hj, rfl⟩ := List.getElem_of_mem hy
                  rw [List.length_drop] at hj
                  rw [List.getElem_drop, hgt (i + j) (by omega) (by omega)]
                  simp
                rw [h0]
                have := List.countP_le_length (p := fun y => bet y q) (l := z.take i)
                rw [List.length_take] at this
                omega
              rw [hs.countP_eq, List.countP_append, hcnt] at hcnt2
              omega
      have h2 := h1.sorted
      have h3 : sortR ((sortR (x.take k ++ c)).take k) = (sortR (x.take k ++ c)).take k := (sortR_eq ((sortR_row _).sublist (List.take_sublist _ _)) (List.Perm.refl _)).symm
      rw [h3] at h2
      exact h2
    · rw [show x.take k = x from List.take_of_length_le (by omega)]
  rw [key _ _ (sortR_row a), sortR_of_perm (List.perm_append_comm), key _ _ (sortR_row b)]
  congr 1
  apply sortR_of_perm
  exact ((sortR_perm b).append (sortR_perm a)).trans List.perm_append_comm
end Go.Proofs.Ytkjffoeelfodhaa.Sc
